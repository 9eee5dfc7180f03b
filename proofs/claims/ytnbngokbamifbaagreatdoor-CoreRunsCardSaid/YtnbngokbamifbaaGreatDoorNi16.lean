/- What a law is proved with. -/
import Derived.Test.YtnbngokbamifbaaGreatDoorNi15
set_option linter.unusedVariables false
set_option linter.unusedSimpArgs false
namespace Go.Proofs.YtnbngokbamifbaaGreatDoor.Pw
open Go Go.RowKit
theorem s_by (k v : Int) (h : barrelV k v) : (if 0 + bitsV v 2 3 * 2 ^ 2 + bitsV v 0 2 * 2 ^ 0 = 0 /\ (k = 1 \/ k = 2) then 32 else 0 + bitsV v 2 3 * 2 ^ 2 + bitsV v 0 2 * 2 ^ 0) = v:=by
 unfold barrelV at h; unfold bitsV; (repeat' split) <;> omega
theorem kind_bd {k v : Int} (h : barrelV k v) : 0 <= k /\ k < 4:=by unfold barrelV at h; omega
theorem s_1_0 (v : Int) (h : 0 <= v /\ v < 8) : 0 + bitsV v 0 3 * 2 ^ 0 = v:=by
 unfold bitsV; (repeat' split) <;> omega
theorem s_1_1 (v : Int) (h : v = 0) : 0 = v:=by
 omega
theorem s_1_2 (v : Int) (h : 0 <= v /\ v < 8) : 0 + bitsV v 0 3 * 2 ^ 0 = v:=by
 unfold bitsV; (repeat' split) <;> omega
theorem s_1_3 (v : Int) (h : v = 0) : 0 = v:=by
 omega
theorem s_1_5 (v : Int) (h : v = 0) : 0 = v:=by
 omega
theorem s_1_6 (v : Int) (h : v = 0) : 0 = v:=by
 omega
theorem s_1_7 (v : Int) (h : v = 0) : 0 = v:=by
 omega
theorem s_1_8 (v : Int) (h : v = 0) : 0 = v:=by
 omega
theorem s_1_9 (v : Int) (h : v = 0) : 0 = v:=by
 omega
theorem s_1_4 (f v : Int) (h : 0 <= v /\ v <= 32) (h1 : f = 1 -> v < 32) (h2 : f = 2 \/ f = 3 -> 0 < v) (h3 : f = 1 \/ f = 2 \/ f = 3) : (if 1 < f /\ 0 + bitsV v 0 5 * 2 ^ 0 = 0 then 32 else 0 + bitsV v 0 5 * 2 ^ 0) = v:=by
 unfold bitsV; (repeat' split) <;> omega
theorem s_2_0 (v : Int) (h : 0 <= v /\ v < 8) : 0 + bitsV v 0 3 * 2 ^ 0 = v:=by
 unfold bitsV; (repeat' split) <;> omega
theorem s_2_1 (v : Int) (h : 0 <= v /\ v < 8) : 0 + bitsV v 0 3 * 2 ^ 0 = v:=by
 unfold bitsV; (repeat' split) <;> omega
theorem s_2_2 (v : Int) (h : 0 <= v /\ v < 8) : 0 + bitsV v 0 3 * 2 ^ 0 = v:=by
 unfold bitsV; (repeat' split) <;> omega
theorem s_2_3 (v : Int) (h : v = 0) : 0 = v:=by
 omega
theorem s_2_4 (v : Int) (h : v = 0) : 0 = v:=by
 omega
theorem s_2_5 (v : Int) (h : v = 0) : 0 = v:=by
 omega
theorem s_2_6 (v : Int) (h : v = 0) : 0 = v:=by
 omega
theorem s_2_7 (v : Int) (h : v = 0) : 0 = v:=by
 omega
theorem s_2_8 (v : Int) (h : v = 0) : 0 = v:=by
 omega
theorem s_2_9 (v : Int) (h : v = 0) : 0 = v:=by
 omega
theorem s_3_0 (v : Int) (h : 0 <= v /\ v < 8) : 0 + bitsV v 0 3 * 2 ^ 0 = v:=by
 unfold bitsV; (repeat' split) <;> omega
theorem s_3_1 (v : Int) (h : 0 <= v /\ v < 8) : 0 + bitsV v 0 3 * 2 ^ 0 = v:=by
 unfold bitsV; (repeat' split) <;> omega
theorem s_3_2 (v : Int) (h : v = 0) : 0 = v:=by
 omega
theorem s_3_3 (v : Int) (h : v = 0) : 0 = v:=by
 omega
theorem s_3_4 (v : Int) (h : 0 <= v /\ v <= 7 /\ v % 1 = 0) : 0 + bitsV v 0 3 * 2 ^ 0 = v:=by
 unfold bitsV; (repeat' split) <;> omega
theorem s_3_5 (v : Int) (h : v = 0) : 0 = v:=by
 omega
theorem s_3_6 (v : Int) (h : v = 0) : 0 = v:=by
 omega
theorem s_3_7 (v : Int) (h : v = 0) : 0 = v:=by
 omega
theorem s_3_8 (v : Int) (h : v = 0) : 0 = v:=by
 omega
theorem s_3_9 (v : Int) (h : v = 0) : 0 = v:=by
 omega
theorem s_4_0 (v : Int) (h : 0 <= v /\ v < 8) : 0 + bitsV v 0 3 * 2 ^ 0 = v:=by
 unfold bitsV; (repeat' split) <;> omega
theorem s_4_1 (v : Int) (h : v = 0) : 0 = v:=by
 omega
theorem s_4_2 (v : Int) (h : v = 0) : 0 = v:=by
 omega
theorem s_4_3 (v : Int) (h : v = 0) : 0 = v:=by
 omega
theorem s_4_4 (v : Int) (h : 0 <= v /\ v <= 255 /\ v % 1 = 0) : 0 + bitsV v 0 8 * 2 ^ 0 = v:=by
 unfold bitsV; (repeat' split) <;> omega
theorem s_4_5 (v : Int) (h : v = 0) : 0 = v:=by
 omega
theorem s_4_6 (v : Int) (h : v = 0) : 0 = v:=by
 omega
theorem s_4_7 (v : Int) (h : v = 0) : 0 = v:=by
 omega
theorem s_4_8 (v : Int) (h : v = 0) : 0 = v:=by
 omega
theorem s_4_9 (v : Int) (h : v = 0) : 0 = v:=by
 omega
theorem s_5_0 (v : Int) (h : 0 <= v /\ v < 8) : 0 + bitsV v 0 3 * 2 ^ 0 = v:=by
 unfold bitsV; (repeat' split) <;> omega
theorem s_5_1 (v : Int) (h : v = 0) : 0 = v:=by
 omega
theorem s_5_2 (v : Int) (h : 0 <= v /\ v < 8) : 0 + bitsV v 0 3 * 2 ^ 0 = v:=by
 unfold bitsV; (repeat' split) <;> omega
theorem s_5_3 (v : Int) (h : v = 0) : 0 = v:=by
 omega
theorem s_5_4 (v : Int) (h : v = 0) : 0 = v:=by
 omega
theorem s_5_5 (v : Int) (h : v = 0) : 0 = v:=by
 omega
theorem s_5_6 (v : Int) (h : v = 0) : 0 = v:=by
 omega
theorem s_5_7 (v : Int) (h : v = 0) : 0 = v:=by
 omega
theorem s_5_8 (v : Int) (h : v = 0) : 0 = v:=by
 omega
theorem s_5_9 (v : Int) (h : v = 0) : 0 = v:=by
 omega
theorem s_6_0 (v : Int) (h : 0 <= v /\ v < 15) : 0 + bitsV v 3 1 * 2 ^ 3 + bitsV v 0 3 * 2 ^ 0 = v:=by
 unfold bitsV; (repeat' split) <;> omega
theorem s_6_1 (v : Int) (h : v = 0) : 0 = v:=by
 omega
theorem s_6_2 (v : Int) (h : 0 <= v /\ v < 15) : 0 + bitsV v 0 4 * 2 ^ 0 = v:=by
 unfold bitsV; (repeat' split) <;> omega
theorem s_6_3 (v : Int) (h : v = 0) : 0 = v:=by
 omega
theorem s_6_4 (v : Int) (h : v = 0) : 0 = v:=by
 omega
theorem s_6_5 (v : Int) (h : v = 0) : 0 = v:=by
 omega
theorem s_6_6 (v : Int) (h : v = 0) : 0 = v:=by
 omega
theorem s_6_7 (v : Int) (h : v = 0) : 0 = v:=by
 omega
theorem s_6_8 (v : Int) (h : v = 0) : 0 = v:=by
 omega
theorem s_6_9 (v : Int) (h : v = 0) : 0 = v:=by
 omega
theorem s_7_0 (v : Int) (h : v = 0) : 0 = v:=by
 omega
theorem s_7_1 (v : Int) (h : v = 0) : 0 = v:=by
 omega
theorem s_7_2 (v : Int) (h : 0 <= v /\ v < 15) : 0 + bitsV v 0 4 * 2 ^ 0 = v:=by
 unfold bitsV; (repeat' split) <;> omega
theorem s_7_3 (v : Int) (h : v = 0) : 0 = v:=by
 omega
theorem s_7_4 (v : Int) (h : v = 0) : 0 = v:=by
 omega
theorem s_7_5 (v : Int) (h : v = 0) : 0 = v:=by
 omega
theorem s_7_6 (v : Int) (h : v = 0) : 0 = v:=by
 omega
theorem s_7_7 (v : Int) (h : v = 0) : 0 = v:=by
 omega
theorem s_7_8 (v : Int) (h : v = 0) : 0 = v:=by
 omega
theorem s_7_9 (v : Int) (h : v = 0) : 0 = v:=by
 omega
theorem s_8_0 (v : Int) (h : 0 <= v /\ v < 8) : 0 + bitsV v 0 3 * 2 ^ 0 = v:=by
 unfold bitsV; (repeat' split) <;> omega
theorem s_8_1 (v : Int) (h : v = 0) : 0 = v:=by
 omega
theorem s_8_2 (v : Int) (h : v = 0) : 0 = v:=by
 omega
theorem s_8_3 (v : Int) (h : v = 0) : 0 = v:=by
 omega
theorem s_8_4 (v : Int) (h : 0 <= v /\ v <= 1020 /\ v % 4 = 0) : 0 + bitsV v 2 8 * 2 ^ 2 = v:=by
 unfold bitsV; (repeat' split) <;> omega
theorem s_8_5 (v : Int) (h : v = 0) : 0 = v:=by
 omega
theorem s_8_6 (v : Int) (h : v = 0) : 0 = v:=by
 omega
theorem s_8_7 (v : Int) (h : v = 0) : 0 = v:=by
 omega
theorem s_8_8 (v : Int) (h : v = 0) : 0 = v:=by
 omega
theorem s_8_9 (v : Int) (h : v = 0) : 0 = v:=by
 omega
theorem s_9_0 (v : Int) (h : 0 <= v /\ v < 8) : 0 + bitsV v 0 3 * 2 ^ 0 = v:=by
 unfold bitsV; (repeat' split) <;> omega
theorem s_9_1 (v : Int) (h : 0 <= v /\ v < 8) : 0 + bitsV v 0 3 * 2 ^ 0 = v:=by
 unfold bitsV; (repeat' split) <;> omega
theorem s_9_2 (v : Int) (h : v = 0) : 0 = v:=by
 omega
theorem s_9_3 (v : Int) (h : v = 0) : 0 = v:=by
 omega
theorem s_9_4 (v : Int) (h : 0 <= v /\ v <= 124 /\ v % 4 = 0) : 0 + bitsV v 2 5 * 2 ^ 2 = v:=by
 unfold bitsV; (repeat' split) <;> omega
theorem s_9_5 (v : Int) (h : v = 0) : 0 = v:=by
 omega
theorem s_9_6 (v : Int) (h : v = 0) : 0 = v:=by
 omega
theorem s_9_7 (v : Int) (h : v = 0) : 0 = v:=by
 omega
theorem s_9_8 (v : Int) (h : v = 0) : 0 = v:=by
 omega
theorem s_9_9 (v : Int) (h : v = 0) : 0 = v:=by
 omega
theorem s_10_0 (v : Int) (h : v = 0) : 0 = v:=by
 omega
theorem s_10_1 (v : Int) (h : v = 0) : 0 = v:=by
 omega
theorem s_10_2 (v : Int) (h : v = 0) : 0 = v:=by
 omega
theorem s_10_3 (v : Int) (h : v = 0) : 0 = v:=by
 omega
theorem s_10_4 (v : Int) (h : 0 <= v /\ v <= 508 /\ v % 4 = 0) : 0 + bitsV v 2 7 * 2 ^ 2 = v:=by
 unfold bitsV; (repeat' split) <;> omega
theorem s_10_5 (v : Int) (h : v = 0) : 0 = v:=by
 omega
theorem s_10_6 (v : Int) (h : v = 0) : 0 = v:=by
 omega
theorem s_10_7 (v : Int) (h : v = 0) : 0 = v:=by
 omega
theorem s_10_8 (v : Int) (h : v = 0) : 0 = v:=by
 omega
theorem s_10_9 (v : Int) (h : v = 0) : 0 = v:=by
 omega
theorem s_11_0 (v : Int) (h : v = 0) : 0 = v:=by
 omega
theorem s_11_1 (v : Int) (h : v = 0) : 0 = v:=by
 omega
theorem s_11_2 (v : Int) (h : v = 0) : 0 = v:=by
 omega
theorem s_11_3 (v : Int) (h : v = 0) : 0 = v:=by
 omega
theorem s_11_4 (v : Int) (h : v = 0) : 0 = v:=by
 omega
theorem s_11_5 (v : Int) (h : v = 0) : 0 = v:=by
 omega
theorem s_11_6 (v : Int) (h : v = 0) : 0 = v:=by
 omega
theorem s_11_7 (v : Int) (h : v = 0) : 0 = v:=by
 omega
theorem s_11_8 (v : Int) (h : v = 0) : 0 = v:=by
 omega
theorem s_11_9 (v : Int) (h : 0 < v /\ v / 16384 % 2 * 16384 + v % 256 = v) : 0 + bitsV v 14 1 * 2 ^ 14 + bitsV v 0 8 * 2 ^ 0 = v:=by
 unfold bitsV; (repeat' split) <;> omega
theorem s_12_0 (v : Int) (h : v = 0) : 0 = v:=by
 omega
theorem s_12_1 (v : Int) (h : v = 0) : 0 = v:=by
 omega
theorem s_12_2 (v : Int) (h : v = 0) : 0 = v:=by
 omega
theorem s_12_3 (v : Int) (h : v = 0) : 0 = v:=by
 omega
theorem s_12_4 (v : Int) (h : v = 0) : 0 = v:=by
 omega
theorem s_12_5 (v : Int) (h : v = 0) : 0 = v:=by
 omega
theorem s_12_6 (v : Int) (h : v = 0) : 0 = v:=by
 omega
theorem s_12_7 (v : Int) (h : v = 0) : 0 = v:=by
 omega
theorem s_12_8 (v : Int) (h : v = 0) : 0 = v:=by
 omega
theorem s_12_9 (v : Int) (h : 0 < v /\ v / 32768 % 2 * 32768 + v % 256 = v) : 0 + bitsV v 15 1 * 2 ^ 15 + bitsV v 0 8 * 2 ^ 0 = v:=by
 unfold bitsV; (repeat' split) <;> omega
theorem s_13_0 (v : Int) (h : v = 0) : 0 = v:=by
 omega
theorem s_13_1 (v : Int) (h : v = 0) : 0 = v:=by
 omega
theorem s_13_2 (v : Int) (h : v = 0) : 0 = v:=by
 omega
theorem s_13_3 (v : Int) (h : v = 0) : 0 = v:=by
 omega
theorem s_13_4 (v : Int) (h : v = 0) : 0 = v:=by
 omega
theorem s_13_5 (v : Int) (h : v = 0) : 0 = v:=by
 omega
theorem s_13_6 (v : Int) (h : v = 0) : 0 = v:=by
 omega
theorem s_13_7 (v : Int) (h : v = 0) : 0 = v:=by
 omega
theorem s_13_8 (v : Int) (h : v = 0) : 0 = v:=by
 omega
theorem s_13_9 (v : Int) (h : v = 0) : 0 = v:=by
 omega
theorem s_14_0 (v : Int) (h : v = 0) : 0 = v:=by
 omega
theorem s_14_1 (v : Int) (h : v = 0) : 0 = v:=by
 omega
theorem s_14_2 (v : Int) (h : v = 0) : 0 = v:=by
 omega
theorem s_14_3 (v : Int) (h : v = 0) : 0 = v:=by
 omega
theorem s_14_4 (v : Int) (h : 0 <= v /\ v <= 255 /\ v % 1 = 0) : 0 + bitsV v 0 8 * 2 ^ 0 = v:=by
 unfold bitsV; (repeat' split) <;> omega
theorem s_14_5 (v : Int) (h : v = 0) : 0 = v:=by
 omega
theorem s_14_6 (v : Int) (h : v = 0) : 0 = v:=by
 omega
theorem s_14_7 (v : Int) (h : v = 0) : 0 = v:=by
 omega
theorem s_14_8 (v : Int) (h : v = 0) : 0 = v:=by
 omega
theorem s_14_9 (v : Int) (h : v = 0) : 0 = v:=by
 omega
theorem s_15_0 (v : Int) (h : v = 0) : 0 = v:=by
 omega
theorem s_15_1 (v : Int) (h : v = 0) : 0 = v:=by
 omega
theorem s_15_2 (v : Int) (h : v = 0) : 0 = v:=by
 omega
theorem s_15_3 (v : Int) (h : v = 0) : 0 = v:=by
 omega
theorem s_15_4 (v : Int) (h : -256 <= v /\ v <= 254 /\ v % 2 = 0) : leastV (0 + bitsV v 1 8 * 2 ^ 1) 9 = v:=by
 unfold leastV bitsV; (repeat' split) <;> omega
theorem s_15_5 (v : Int) (h : v = 0) : 0 = v:=by
 omega
theorem s_15_6 (v : Int) (h : v = 0) : 0 = v:=by
 omega
theorem s_15_7 (v : Int) (h : v = 0) : 0 = v:=by
 omega
theorem s_15_8 (v : Int) (h : 0 <= v /\ v <= 13) : 0 + bitsV v 0 4 * 2 ^ 0 = v:=by
 unfold bitsV; (repeat' split) <;> omega
theorem s_15_9 (v : Int) (h : v = 0) : 0 = v:=by
 omega
theorem s_16_0 (v : Int) (h : v = 0) : 0 = v:=by
 omega
theorem s_16_1 (v : Int) (h : v = 0) : 0 = v:=by
 omega
theorem s_16_2 (v : Int) (h : v = 0) : 0 = v:=by
 omega
theorem s_16_3 (v : Int) (h : v = 0) : 0 = v:=by
 omega
theorem s_16_4 (v : Int) (h : -2048 <= v /\ v <= 2046 /\ v % 2 = 0) : leastV (0 + bitsV v 1 11 * 2 ^ 1) 12 = v:=by
 unfold leastV bitsV; (repeat' split) <;> omega
theorem s_16_5 (v : Int) (h : v = 0) : 0 = v:=by
 omega
theorem s_16_6 (v : Int) (h : v = 0) : 0 = v:=by
 omega
theorem s_16_7 (v : Int) (h : v = 0) : 0 = v:=by
 omega
theorem s_16_8 (v : Int) (h : v = 0) : 0 = v:=by
 omega
theorem s_16_9 (v : Int) (h : v = 0) : 0 = v:=by
 omega
theorem s_17_0 (v : Int) (h : 0 <= v /\ v < 15) : 0 + bitsV v 0 4 * 2 ^ 0 = v:=by
 unfold bitsV; (repeat' split) <;> omega
theorem s_17_1 (v : Int) (h : v = 0) : 0 = v:=by
 omega
theorem s_17_2 (v : Int) (h : v = 0) : 0 = v:=by
 omega
theorem s_17_3 (v : Int) (h : v = 0) : 0 = v:=by
 omega
theorem s_17_4 (v : Int) (h : 0 <= v /\ v <= 65535 /\ v % 1 = 0) : 0 + bitsV v 11 1 * 2 ^ 11 + bitsV v 12 4 * 2 ^ 12 + bitsV v 8 3 * 2 ^ 8 + bitsV v 0 8 * 2 ^ 0 = v:=by
 unfold bitsV; (repeat' split) <;> omega
theorem s_17_5 (v : Int) (h : v = 0) : 0 = v:=by
 omega
theorem s_17_6 (v : Int) (h : v = 0) : 0 = v:=by
 omega
theorem s_17_7 (v : Int) (h : v = 0) : 0 = v:=by
 omega
theorem s_17_8 (v : Int) (h : v = 0) : 0 = v:=by
 omega
theorem s_17_9 (v : Int) (h : v = 0) : 0 = v:=by
 omega
theorem s_18_0 (v : Int) (h : 0 <= v /\ v < 15) : 0 + bitsV v 0 4 * 2 ^ 0 = v:=by
 unfold bitsV; (repeat' split) <;> omega
theorem s_18_1 (v : Int) (h : 0 <= v /\ v < 15) : 0 + bitsV v 0 4 * 2 ^ 0 = v:=by
 unfold bitsV; (repeat' split) <;> omega
theorem s_18_2 (v : Int) (h : v = 0) : 0 = v:=by
 omega
theorem s_18_3 (v : Int) (h : v = 0) : 0 = v:=by
 omega
theorem s_18_4 (v : Int) (h : 0 <= v /\ v <= 4095 /\ v % 1 = 0) : 0 + bitsV v 11 1 * 2 ^ 11 + bitsV v 8 3 * 2 ^ 8 + bitsV v 0 8 * 2 ^ 0 = v:=by
 unfold bitsV; (repeat' split) <;> omega
theorem s_18_5 (v : Int) (h : v = 0) : 0 = v:=by
 omega
theorem s_18_6 (v : Int) (h : v = 0) : 0 = v:=by
 omega
theorem s_18_7 (v : Int) (h : v = 0 \/ v = 1) : 0 + bitsV v 0 1 * 2 ^ 0 = v:=by
 unfold bitsV; (repeat' split) <;> omega
theorem s_18_8 (v : Int) (h : v = 0) : 0 = v:=by
 omega
theorem s_18_9 (v : Int) (h : v = 0) : 0 = v:=by
 omega
theorem s_19_0 (v : Int) (h : 0 <= v /\ v < 15) : 0 + bitsV v 0 4 * 2 ^ 0 = v:=by
 unfold bitsV; (repeat' split) <;> omega
theorem s_19_1 (v : Int) (h : v = 0) : 0 = v:=by
 omega
theorem s_19_2 (v : Int) (h : v = 0) : 0 = v:=by
 omega
theorem s_19_3 (v : Int) (h : v = 0) : 0 = v:=by
 omega
theorem s_19_4 (v : Int) (h : 0 <= v /\ v <= 4095 /\ v % 1 = 0) : 0 + bitsV v 11 1 * 2 ^ 11 + bitsV v 8 3 * 2 ^ 8 + bitsV v 0 8 * 2 ^ 0 = v:=by
 unfold bitsV; (repeat' split) <;> omega
theorem s_19_5 (v : Int) (h : v = 0) : 0 = v:=by
 omega
theorem s_19_6 (v : Int) (h : v = 0) : 0 = v:=by
 omega
theorem s_19_7 (v : Int) (h : v = 0 \/ v = 1) : 0 + bitsV v 0 1 * 2 ^ 0 = v:=by
 unfold bitsV; (repeat' split) <;> omega
theorem s_19_8 (v : Int) (h : v = 0) : 0 = v:=by
 omega
theorem s_19_9 (v : Int) (h : v = 0) : 0 = v:=by
 omega
theorem s_20_0 (v : Int) (h : v = 0) : 0 = v:=by
 omega
theorem s_20_1 (v : Int) (h : 0 <= v /\ v < 15) : 0 + bitsV v 0 4 * 2 ^ 0 = v:=by
 unfold bitsV; (repeat' split) <;> omega
theorem s_20_2 (v : Int) (h : v = 0) : 0 = v:=by
 omega
theorem s_20_3 (v : Int) (h : v = 0) : 0 = v:=by
 omega
theorem s_20_4 (v : Int) (h : 0 <= v /\ v <= 4095 /\ v % 1 = 0) : 0 + bitsV v 11 1 * 2 ^ 11 + bitsV v 8 3 * 2 ^ 8 + bitsV v 0 8 * 2 ^ 0 = v:=by
 unfold bitsV; (repeat' split) <;> omega
theorem s_20_5 (v : Int) (h : v = 0) : 0 = v:=by
 omega
theorem s_20_6 (v : Int) (h : v = 0) : 0 = v:=by
 omega
theorem s_20_7 (v : Int) (h : v = 0) : 0 = v:=by
 omega
theorem s_20_8 (v : Int) (h : v = 0) : 0 = v:=by
 omega
theorem s_20_9 (v : Int) (h : v = 0) : 0 = v:=by
 omega
theorem s_21_0 (v : Int) (h : 0 <= v /\ v < 15) : 0 + bitsV v 0 4 * 2 ^ 0 = v:=by
 unfold bitsV; (repeat' split) <;> omega
theorem s_21_1 (v : Int) (h : 0 <= v /\ v < 15) : 0 + bitsV v 0 4 * 2 ^ 0 = v:=by
 unfold bitsV; (repeat' split) <;> omega
theorem s_21_2 (v : Int) (h : 0 <= v /\ v < 15) : 0 + bitsV v 0 4 * 2 ^ 0 = v:=by
 unfold bitsV; (repeat' split) <;> omega
theorem s_21_3 (v : Int) (h : v = 0) : 0 = v:=by
 omega
theorem s_21_4 (v : Int) (h : v = 0) : 0 = v:=by
 omega
theorem s_21_5 (v : Int) (h : 0 <= v /\ v < 4) : 0 + bitsV v 0 2 * 2 ^ 0 = v:=by
 unfold bitsV; (repeat' split) <;> omega
theorem s_21_7 (v : Int) (h : v = 0 \/ v = 1) : 0 + bitsV v 0 1 * 2 ^ 0 = v:=by
 unfold bitsV; (repeat' split) <;> omega
theorem s_21_8 (v : Int) (h : v = 0) : 0 = v:=by
 omega
theorem s_21_9 (v : Int) (h : v = 0) : 0 = v:=by
 omega
theorem s_22_0 (v : Int) (h : 0 <= v /\ v < 15) : 0 + bitsV v 0 4 * 2 ^ 0 = v:=by
 unfold bitsV; (repeat' split) <;> omega
theorem s_22_1 (v : Int) (h : v = 0) : 0 = v:=by
 omega
theorem s_22_2 (v : Int) (h : 0 <= v /\ v < 15) : 0 + bitsV v 0 4 * 2 ^ 0 = v:=by
 unfold bitsV; (repeat' split) <;> omega
theorem s_22_3 (v : Int) (h : v = 0) : 0 = v:=by
 omega
theorem s_22_4 (v : Int) (h : v = 0) : 0 = v:=by
 omega
theorem s_22_5 (v : Int) (h : 0 <= v /\ v < 4) : 0 + bitsV v 0 2 * 2 ^ 0 = v:=by
 unfold bitsV; (repeat' split) <;> omega
theorem s_22_7 (v : Int) (h : v = 0 \/ v = 1) : 0 + bitsV v 0 1 * 2 ^ 0 = v:=by
 unfold bitsV; (repeat' split) <;> omega
theorem s_22_8 (v : Int) (h : v = 0) : 0 = v:=by
 omega
theorem s_22_9 (v : Int) (h : v = 0) : 0 = v:=by
 omega
theorem s_23_0 (v : Int) (h : v = 0) : 0 = v:=by
 omega
theorem s_23_1 (v : Int) (h : 0 <= v /\ v < 15) : 0 + bitsV v 0 4 * 2 ^ 0 = v:=by
 unfold bitsV; (repeat' split) <;> omega
theorem s_23_2 (v : Int) (h : 0 <= v /\ v < 15) : 0 + bitsV v 0 4 * 2 ^ 0 = v:=by
 unfold bitsV; (repeat' split) <;> omega
theorem s_23_3 (v : Int) (h : v = 0) : 0 = v:=by
 omega
theorem s_23_4 (v : Int) (h : v = 0) : 0 = v:=by
 omega
theorem s_23_5 (v : Int) (h : 0 <= v /\ v < 4) : 0 + bitsV v 0 2 * 2 ^ 0 = v:=by
 unfold bitsV; (repeat' split) <;> omega
theorem s_23_7 (v : Int) (h : v = 0) : 0 = v:=by
 omega
theorem s_23_8 (v : Int) (h : v = 0) : 0 = v:=by
 omega
theorem s_23_9 (v : Int) (h : v = 0) : 0 = v:=by
 omega
theorem s_24_0 (v : Int) (h : 0 <= v /\ v < 15) : 0 + bitsV v 0 4 * 2 ^ 0 = v:=by
 unfold bitsV; (repeat' split) <;> omega
theorem s_24_1 (v : Int) (h : 0 <= v /\ v < 15) : 0 + bitsV v 0 4 * 2 ^ 0 = v:=by
 unfold bitsV; (repeat' split) <;> omega
theorem s_24_2 (v : Int) (h : v = 0) : 0 = v:=by
 omega
theorem s_24_3 (v : Int) (h : v = 0) : 0 = v:=by
 omega
theorem s_24_4 (v : Int) (h : 0 <= v /\ v <= 4095 /\ v % 1 = 0) : 0 + bitsV v 11 1 * 2 ^ 11 + bitsV v 8 3 * 2 ^ 8 + bitsV v 0 8 * 2 ^ 0 = v:=by
 unfold bitsV; (repeat' split) <;> omega
theorem s_24_5 (v : Int) (h : v = 0) : 0 = v:=by
 omega
theorem s_24_6 (v : Int) (h : v = 0) : 0 = v:=by
 omega
theorem s_24_7 (v : Int) (h : v = 0) : 0 = v:=by
 omega
theorem s_24_8 (v : Int) (h : v = 0) : 0 = v:=by
 omega
theorem s_24_9 (v : Int) (h : v = 0) : 0 = v:=by
 omega
theorem s_25_0 (v : Int) (h : 0 <= v /\ v < 15) : 0 + bitsV v 0 4 * 2 ^ 0 = v:=by
 unfold bitsV; (repeat' split) <;> omega
theorem s_25_1 (v : Int) (h : 0 <= v /\ v < 15) : 0 + bitsV v 0 4 * 2 ^ 0 = v:=by
 unfold bitsV; (repeat' split) <;> omega
theorem s_25_2 (v : Int) (h : v = 0) : 0 = v:=by
 omega
theorem s_25_3 (v : Int) (h : v = 0) : 0 = v:=by
 omega
theorem s_25_4 (v : Int) (h : 0 <= v /\ v <= 4095 /\ v % 1 = 0) : 0 + bitsV v 0 12 * 2 ^ 0 = v:=by
 unfold bitsV; (repeat' split) <;> omega
theorem s_25_5 (v : Int) (h : v = 0) : 0 = v:=by
 omega
theorem s_25_6 (v : Int) (h : v = 0) : 0 = v:=by
 omega
theorem s_25_7 (v : Int) (h : v = 0) : 0 = v:=by
 omega
theorem s_25_8 (v : Int) (h : v = 0) : 0 = v:=by
 omega
theorem s_25_9 (v : Int) (h : v = 0) : 0 = v:=by
 omega
theorem s_26_0 (v : Int) (h : 0 <= v /\ v < 15) : 0 + bitsV v 0 4 * 2 ^ 0 = v:=by
 unfold bitsV; (repeat' split) <;> omega
theorem s_26_1 (v : Int) (h : 0 <= v /\ v < 15) : 0 + bitsV v 0 4 * 2 ^ 0 = v:=by
 unfold bitsV; (repeat' split) <;> omega
theorem s_26_2 (v : Int) (h : 0 <= v /\ v < 15) : 0 + bitsV v 0 4 * 2 ^ 0 = v:=by
 unfold bitsV; (repeat' split) <;> omega
theorem s_26_3 (v : Int) (h : v = 0) : 0 = v:=by
 omega
theorem s_26_4 (v : Int) (h : v = 0) : 0 = v:=by
 omega
theorem s_26_5 (v : Int) (h : v = 0) : 0 = v:=by
 omega
theorem s_26_6 (v : Int) (h : 0 <= v /\ v <= 3 /\ v % 1 = 0) : 0 + bitsV v 0 2 * 2 ^ 0 = v:=by
 unfold bitsV; (repeat' split) <;> omega
theorem s_26_7 (v : Int) (h : v = 0) : 0 = v:=by
 omega
theorem s_26_8 (v : Int) (h : v = 0) : 0 = v:=by
 omega
theorem s_26_9 (v : Int) (h : v = 0) : 0 = v:=by
 omega
theorem s_27_0 (v : Int) (h : 0 <= v /\ v < 15) : 0 + bitsV v 0 4 * 2 ^ 0 = v:=by
 unfold bitsV; (repeat' split) <;> omega
theorem s_27_1 (v : Int) (h : 0 <= v /\ v < 15) : 0 + bitsV v 0 4 * 2 ^ 0 = v:=by
 unfold bitsV; (repeat' split) <;> omega
theorem s_27_2 (v : Int) (h : 0 <= v /\ v < 15) : 0 + bitsV v 0 4 * 2 ^ 0 = v:=by
 unfold bitsV; (repeat' split) <;> omega
theorem s_27_3 (v : Int) (h : v = 0) : 0 = v:=by
 omega
theorem s_27_4 (v : Int) (h : v = 0) : 0 = v:=by
 omega
theorem s_27_5 (v : Int) (h : v = 0) : 0 = v:=by
 omega
theorem s_27_6 (v : Int) (h : v = 0) : 0 = v:=by
 omega
theorem s_27_7 (v : Int) (h : v = 0 \/ v = 1) : 0 + bitsV v 0 1 * 2 ^ 0 = v:=by
 unfold bitsV; (repeat' split) <;> omega
theorem s_27_8 (v : Int) (h : v = 0) : 0 = v:=by
 omega
theorem s_27_9 (v : Int) (h : v = 0) : 0 = v:=by
 omega
theorem s_28_0 (v : Int) (h : 0 <= v /\ v < 15) : 0 + bitsV v 0 4 * 2 ^ 0 = v:=by
 unfold bitsV; (repeat' split) <;> omega
theorem s_28_1 (v : Int) (h : 0 <= v /\ v < 15) : 0 + bitsV v 0 4 * 2 ^ 0 = v:=by
 unfold bitsV; (repeat' split) <;> omega
theorem s_28_2 (v : Int) (h : 0 <= v /\ v < 15) : 0 + bitsV v 0 4 * 2 ^ 0 = v:=by
 unfold bitsV; (repeat' split) <;> omega
theorem s_28_3 (v : Int) (h : v = 0) : 0 = v:=by
 omega
theorem s_28_4 (v : Int) (h : v = 0) : 0 = v:=by
 omega
theorem s_28_5 (v : Int) (h : v = 0) : 0 = v:=by
 omega
theorem s_28_6 (v : Int) (h : v = 0) : 0 = v:=by
 omega
theorem s_28_7 (v : Int) (h : v = 0) : 0 = v:=by
 omega
theorem s_28_8 (v : Int) (h : v = 0) : 0 = v:=by
 omega
theorem s_28_9 (v : Int) (h : v = 0) : 0 = v:=by
 omega
theorem s_29_0 (v : Int) (h : 0 <= v /\ v < 15) : 0 + bitsV v 0 4 * 2 ^ 0 = v:=by
 unfold bitsV; (repeat' split) <;> omega
theorem s_29_1 (v : Int) (h : 0 <= v /\ v < 15) : 0 + bitsV v 0 4 * 2 ^ 0 = v:=by
 unfold bitsV; (repeat' split) <;> omega
theorem s_29_2 (v : Int) (h : 0 <= v /\ v < 15) : 0 + bitsV v 0 4 * 2 ^ 0 = v:=by
 unfold bitsV; (repeat' split) <;> omega
theorem s_29_3 (v : Int) (h : 0 <= v /\ v < 15) : 0 + bitsV v 0 4 * 2 ^ 0 = v:=by
 unfold bitsV; (repeat' split) <;> omega
theorem s_29_4 (v : Int) (h : v = 0) : 0 = v:=by
 omega
theorem s_29_5 (v : Int) (h : v = 0) : 0 = v:=by
 omega
theorem s_29_6 (v : Int) (h : v = 0) : 0 = v:=by
 omega
theorem s_29_7 (v : Int) (h : v = 0) : 0 = v:=by
 omega
theorem s_29_8 (v : Int) (h : v = 0) : 0 = v:=by
 omega
theorem s_29_9 (v : Int) (h : v = 0) : 0 = v:=by
 omega
theorem s_30_0 (v : Int) (h : 0 <= v /\ v < 15) : 0 + bitsV v 0 4 * 2 ^ 0 = v:=by
 unfold bitsV; (repeat' split) <;> omega
theorem s_30_1 (v : Int) (h : 0 <= v /\ v < 15) : 0 + bitsV v 0 4 * 2 ^ 0 = v:=by
 unfold bitsV; (repeat' split) <;> omega
theorem s_30_2 (v : Int) (h : 0 <= v /\ v < 15) : 0 + bitsV v 0 4 * 2 ^ 0 = v:=by
 unfold bitsV; (repeat' split) <;> omega
theorem s_30_3 (v : Int) (h : 0 <= v /\ v < 15) : 0 + bitsV v 0 4 * 2 ^ 0 = v:=by
 unfold bitsV; (repeat' split) <;> omega
theorem s_30_4 (v : Int) (h : v = 0) : 0 = v:=by
 omega
theorem s_30_5 (v : Int) (h : v = 0) : 0 = v:=by
 omega
theorem s_30_6 (v : Int) (h : v = 0) : 0 = v:=by
 omega
theorem s_30_7 (v : Int) (h : v = 0) : 0 = v:=by
 omega
theorem s_30_8 (v : Int) (h : v = 0) : 0 = v:=by
 omega
theorem s_30_9 (v : Int) (h : v = 0) : 0 = v:=by
 omega
theorem s_31_0 (v : Int) (h : 0 <= v /\ v < 15) : 0 + bitsV v 0 4 * 2 ^ 0 = v:=by
 unfold bitsV; (repeat' split) <;> omega
theorem s_31_1 (v : Int) (h : 0 <= v /\ v < 15) : 0 + bitsV v 0 4 * 2 ^ 0 = v:=by
 unfold bitsV; (repeat' split) <;> omega
theorem s_31_2 (v : Int) (h : 0 <= v /\ v < 15) : 0 + bitsV v 0 4 * 2 ^ 0 = v:=by
 unfold bitsV; (repeat' split) <;> omega
theorem s_31_3 (v : Int) (h : 0 <= v /\ v < 15) : 0 + bitsV v 0 4 * 2 ^ 0 = v:=by
 unfold bitsV; (repeat' split) <;> omega
theorem s_31_4 (v : Int) (h : v = 0) : 0 = v:=by
 omega
theorem s_31_5 (v : Int) (h : v = 0) : 0 = v:=by
 omega
theorem s_31_6 (v : Int) (h : v = 0) : 0 = v:=by
 omega
theorem s_31_7 (v : Int) (h : v = 0) : 0 = v:=by
 omega
theorem s_31_8 (v : Int) (h : v = 0) : 0 = v:=by
 omega
theorem s_31_9 (v : Int) (h : v = 0) : 0 = v:=by
 omega
theorem s_32_0 (v : Int) (h : 0 <= v /\ v < 15) : 0 + bitsV v 0 4 * 2 ^ 0 = v:=by
 unfold bitsV; (repeat' split) <;> omega
theorem s_32_1 (v : Int) (h : v = 0) : 0 = v:=by
 omega
theorem s_32_2 (v : Int) (h : 0 <= v /\ v < 15) : bitsV v 0 4 = v:=by
 unfold bitsV; split <;> omega
theorem s_32_3 (v : Int) (h : v = 0) : 0 = v:=by
 omega
theorem s_32_4 (v : Int) (h : v = 0) : 0 = v:=by
 omega
theorem s_32_5 (v : Int) (h : v = 0) : 0 = v:=by
 omega
theorem s_32_6 (v : Int) (h : v = 0) : 0 = v:=by
 omega
theorem s_32_7 (v : Int) (h : v = 0) : 0 = v:=by
 omega
theorem s_32_8 (v : Int) (h : v = 0) : 0 = v:=by
 omega
theorem s_32_9 (v : Int) (h : v = 0) : 0 = v:=by
 omega
theorem s_33_0 (v : Int) (h : v = 0) : 0 = v:=by
 omega
theorem s_33_1 (v : Int) (h : v = 0) : 0 = v:=by
 omega
theorem s_33_2 (v : Int) (h : v = 0) : 0 = v:=by
 omega
theorem s_33_3 (v : Int) (h : v = 0) : 0 = v:=by
 omega
theorem s_33_4 (v : Int) (h : -1048576 <= v /\ v <= 1048574 /\ v % 2 = 0) : leastV (0 + bitsV v 20 1 * 2 ^ 20 + bitsV v 12 6 * 2 ^ 12 + bitsV v 18 1 * 2 ^ 18 + bitsV v 19 1 * 2 ^ 19 + bitsV v 1 11 * 2 ^ 1) 21 = v:=by
 unfold leastV bitsV; (repeat' split) <;> omega
theorem s_33_5 (v : Int) (h : v = 0) : 0 = v:=by
 omega
theorem s_33_6 (v : Int) (h : v = 0) : 0 = v:=by
 omega
theorem s_33_7 (v : Int) (h : v = 0) : 0 = v:=by
 omega
theorem s_33_8 (v : Int) (h : 0 <= v /\ v <= 13) : 0 + bitsV v 0 4 * 2 ^ 0 = v:=by
 unfold bitsV; (repeat' split) <;> omega
theorem s_33_9 (v : Int) (h : v = 0) : 0 = v:=by
 omega
theorem s_34_0 (v : Int) (h : v = 0) : 0 = v:=by
 omega
theorem s_34_1 (v : Int) (h : v = 0) : 0 = v:=by
 omega
theorem s_34_2 (v : Int) (h : v = 0) : 0 = v:=by
 omega
theorem s_34_3 (v : Int) (h : v = 0) : 0 = v:=by
 omega
theorem s_34_5 (v : Int) (h : v = 0) : 0 = v:=by
 omega
theorem s_34_6 (v : Int) (h : v = 0) : 0 = v:=by
 omega
theorem s_34_7 (v : Int) (h : v = 0) : 0 = v:=by
 omega
theorem s_34_8 (v : Int) (h : v = 0) : 0 = v:=by
 omega
theorem s_34_9 (v : Int) (h : v = 0) : 0 = v:=by
 omega
end Go.Proofs.YtnbngokbamifbaaGreatDoor.Pw
namespace Go.Proofs.YtnbngokbamifbaaGreatDoor.Pw
open Go Go.RowKit
theorem has_0 {r : Int} (h : hasV 0 r) : r = 0:=by unfold hasV at h; omega
theorem has_1 {r : Int} (h : hasV 1 r) : 0 <= r /\ r < 8:=by unfold hasV at h; omega
theorem has_2 {r : Int} (h : hasV 2 r) : 0 <= r /\ r < 15:=by unfold hasV at h; omega
theorem has_3 {r : Int} (h : hasV 3 r) : 0 <= r /\ r < 15:=by unfold hasV at h; omega
theorem sp_0 {a b n : Int} (h : spanV a b 0 n) : n = 0:=(span_lit h).elim (fun e=>e.2) fun e=>absurd rfl e.1
theorem sp_s {a b s n : Int} (hs : s ≠ 0) (h : spanV a b s n) : a <= n /\ n <= b /\ n % s = 0:=(span_lit h).elim (fun e=>absurd e.1 hs) fun e=>e.2
theorem imm_ne {K f x : Int} (h : K ≠ 1 /\ K ≠ 15 /\ K ≠ 16 /\ K ≠ 33 /\ K ≠ 34) : immA K f x = x:=by
 unfold immA; rw [if_neg h.2.1,if_neg h.2.2.1,if_neg h.2.2.2.1,if_neg h.2.2.2.2,if_neg (fun e=>h.1 e.1)]
theorem imm_1 {f x : Int} : immA 1 f x = if 1 < f /\ x = 0 then 32 else x:=by
 unfold immA; rw [if_neg (by decide),if_neg (by decide),if_neg (by decide),if_neg (by decide)]
 by_cases h : 1 < f /\ x = 0
 ·rw [if_pos ⟨rfl,h⟩,if_pos h]
 ·rw [if_neg (fun e=>h e.2),if_neg h]
theorem by_ne {K k x : Int} (h : ¬ (21 <= K /\ K <= 23)) : byA K k x = x:=if_neg fun e=>h ⟨e.1,e.2.1⟩
theorem by_in {K k x : Int} (h : 21 <= K /\ K <= 23) : byA K k x = if x = 0 /\ (k = 1 \/ k = 2) then 32 else x:=by
 unfold byA
 by_cases g : x = 0 /\ (k = 1 \/ k = 2)
 ·rw [if_pos ⟨h.1,h.2,g⟩,if_pos g]
 ·rw [if_neg (fun e=>g e.2.2),if_neg g]
theorem lis_0 {i : IN} {r : RU} (hr : r.regs = 0) (h : listedV i r) : i.regs = 0:=h.elim (fun e=>e.2) fun e=>absurd hr e.1
theorem lis_k {i : IN} {r : RU} (k : Nat) (hk : 8 <= k) (hk2 : k <= 15) (hr : r.regs = 2 ^ k + 255) (h : listedV i r) (hg : i.regs <= 9223372036854775807) : 0 < i.regs /\ i.regs / 2 ^ k % 2 * 2 ^ k + i.regs % 256 = i.regs:=by
 have hp : (0 : Int) < 2 ^ k:=by have:=pow_cast k; have:=Nat.two_pow_pos k; omega
 rcases h with h | h
 ·have:=hr.symm.trans h.1; omega
 ·exact ⟨h.2.1,regs_of k hk hk2 i.regs r.regs hr h.2.1 hg h.2.2⟩
theorem sh_0 {i : IN} {r : RU} (hr : r.kind = false) (h : shiftV i r) : i.kind = 0 /\ spanV r.b0 r.b1 r.b2 i.by_:=h.elim (fun e=>by rw [hr] at e; exact absurd e.1 Bool.false_ne_true) fun e=>e.2
theorem sh_1 {i : IN} {r : RU} (hr : r.kind = true) (h : shiftV i r) : barrelV i.kind i.by_:=h.elim (fun e=>e.2) fun e=>absurd hr e.1
set_option maxRecDepth 100000 in
theorem back_1 (i : IN) (hs : shapeV i.form = 1) (hr : rightR i (ruW 1)) (hg : i.regs <= 9223372036854775807) : readX 1 i = i:=by
 obtain ⟨hf,h1,h2,h3,h4,h5,h6,h7,h8,h9,h10⟩:=hr
 have g0:=has_1 (r:=i.rd) h1
 have g1:=has_0 (r:=i.rn) h2
 have g2:=has_1 (r:=i.rm) h3
 have g3:=has_0 (r:=i.ra) h4
 have g4 : 0 <= i.imm /\ i.imm <= 32 /\ i.imm % 1 = 0:=sp_s (s:=1) (by decide) h7
 have g5 : i.kind = 0:=(sh_0 rfl h9).1
 have g6 : i.by_ = 0:=sp_0 (sh_0 rfl h9).2
 have g7 : i.set = 0:=h8.elim id fun e=>absurd (show false = true from e.2) Bool.false_ne_true
 have g8 : i.cond = 0:=h6.elim id fun e=>absurd (show false = true from e.1) Bool.false_ne_true
 have g9 : i.regs = 0:=lis_0 rfl h5
 exact in_ext rfl (s_1_0 i.rd g0) (s_1_1 i.rn g1) (s_1_2 i.rm g2) (s_1_3 i.ra g3) (imm_1.trans (s_1_4 i.form i.imm ⟨g4.1,g4.2.1⟩ h10.1 h10.2.1 (shape_one hf hs))) (s_1_5 i.kind g5) ((by_ne (K:=1) (k:=xR 1 i 5) (by decide)).trans (s_1_6 i.by_ g6)) (s_1_7 i.set g7) (s_1_8 i.cond g8) (s_1_9 i.regs g9)
set_option maxRecDepth 100000 in
theorem back_2 (i : IN) (hs : shapeV i.form = 2) (hr : rightR i (ruW 2)) (hg : i.regs <= 9223372036854775807) : readX 2 i = i:=by
 obtain ⟨hf,h1,h2,h3,h4,h5,h6,h7,h8,h9,h10⟩:=hr
 have g0:=has_1 (r:=i.rd) h1
 have g1:=has_1 (r:=i.rn) h2
 have g2:=has_1 (r:=i.rm) h3
 have g3:=has_0 (r:=i.ra) h4
 have g4 : i.imm = 0:=sp_0 h7
 have g5 : i.kind = 0:=(sh_0 rfl h9).1
 have g6 : i.by_ = 0:=sp_0 (sh_0 rfl h9).2
 have g7 : i.set = 0:=h8.elim id fun e=>absurd (show false = true from e.2) Bool.false_ne_true
 have g8 : i.cond = 0:=h6.elim id fun e=>absurd (show false = true from e.1) Bool.false_ne_true
 have g9 : i.regs = 0:=lis_0 rfl h5
 exact in_ext rfl (s_2_0 i.rd g0) (s_2_1 i.rn g1) (s_2_2 i.rm g2) (s_2_3 i.ra g3) ((imm_ne (K:=2) (f:=i.form) (by decide)).trans (s_2_4 i.imm g4)) (s_2_5 i.kind g5) ((by_ne (K:=2) (k:=xR 2 i 5) (by decide)).trans (s_2_6 i.by_ g6)) (s_2_7 i.set g7) (s_2_8 i.cond g8) (s_2_9 i.regs g9)
set_option maxRecDepth 100000 in
theorem back_3 (i : IN) (hs : shapeV i.form = 3) (hr : rightR i (ruW 3)) (hg : i.regs <= 9223372036854775807) : readX 3 i = i:=by
 obtain ⟨hf,h1,h2,h3,h4,h5,h6,h7,h8,h9,h10⟩:=hr
 have g0:=has_1 (r:=i.rd) h1
 have g1:=has_1 (r:=i.rn) h2
 have g2:=has_0 (r:=i.rm) h3
 have g3:=has_0 (r:=i.ra) h4
 have g4 : 0 <= i.imm /\ i.imm <= 7 /\ i.imm % 1 = 0:=sp_s (s:=1) (by decide) h7
 have g5 : i.kind = 0:=(sh_0 rfl h9).1
 have g6 : i.by_ = 0:=sp_0 (sh_0 rfl h9).2
 have g7 : i.set = 0:=h8.elim id fun e=>absurd (show false = true from e.2) Bool.false_ne_true
 have g8 : i.cond = 0:=h6.elim id fun e=>absurd (show false = true from e.1) Bool.false_ne_true
 have g9 : i.regs = 0:=lis_0 rfl h5
 exact in_ext rfl (s_3_0 i.rd g0) (s_3_1 i.rn g1) (s_3_2 i.rm g2) (s_3_3 i.ra g3) ((imm_ne (K:=3) (f:=i.form) (by decide)).trans (s_3_4 i.imm g4)) (s_3_5 i.kind g5) ((by_ne (K:=3) (k:=xR 3 i 5) (by decide)).trans (s_3_6 i.by_ g6)) (s_3_7 i.set g7) (s_3_8 i.cond g8) (s_3_9 i.regs g9)
set_option maxRecDepth 100000 in
theorem back_4 (i : IN) (hs : shapeV i.form = 4) (hr : rightR i (ruW 4)) (hg : i.regs <= 9223372036854775807) : readX 4 i = i:=by
 obtain ⟨hf,h1,h2,h3,h4,h5,h6,h7,h8,h9,h10⟩:=hr
 have g0:=has_1 (r:=i.rd) h1
 have g1:=has_0 (r:=i.rn) h2
 have g2:=has_0 (r:=i.rm) h3
 have g3:=has_0 (r:=i.ra) h4
 have g4 : 0 <= i.imm /\ i.imm <= 255 /\ i.imm % 1 = 0:=sp_s (s:=1) (by decide) h7
 have g5 : i.kind = 0:=(sh_0 rfl h9).1
 have g6 : i.by_ = 0:=sp_0 (sh_0 rfl h9).2
 have g7 : i.set = 0:=h8.elim id fun e=>absurd (show false = true from e.2) Bool.false_ne_true
 have g8 : i.cond = 0:=h6.elim id fun e=>absurd (show false = true from e.1) Bool.false_ne_true
 have g9 : i.regs = 0:=lis_0 rfl h5
 exact in_ext rfl (s_4_0 i.rd g0) (s_4_1 i.rn g1) (s_4_2 i.rm g2) (s_4_3 i.ra g3) ((imm_ne (K:=4) (f:=i.form) (by decide)).trans (s_4_4 i.imm g4)) (s_4_5 i.kind g5) ((by_ne (K:=4) (k:=xR 4 i 5) (by decide)).trans (s_4_6 i.by_ g6)) (s_4_7 i.set g7) (s_4_8 i.cond g8) (s_4_9 i.regs g9)
set_option maxRecDepth 100000 in
theorem back_5 (i : IN) (hs : shapeV i.form = 5) (hr : rightR i (ruW 5)) (hg : i.regs <= 9223372036854775807) : readX 5 i = i:=by
 obtain ⟨hf,h1,h2,h3,h4,h5,h6,h7,h8,h9,h10⟩:=hr
 have g0:=has_1 (r:=i.rd) h1
 have g1:=has_0 (r:=i.rn) h2
 have g2:=has_1 (r:=i.rm) h3
 have g3:=has_0 (r:=i.ra) h4
 have g4 : i.imm = 0:=sp_0 h7
 have g5 : i.kind = 0:=(sh_0 rfl h9).1
 have g6 : i.by_ = 0:=sp_0 (sh_0 rfl h9).2
 have g7 : i.set = 0:=h8.elim id fun e=>absurd (show false = true from e.2) Bool.false_ne_true
 have g8 : i.cond = 0:=h6.elim id fun e=>absurd (show false = true from e.1) Bool.false_ne_true
 have g9 : i.regs = 0:=lis_0 rfl h5
 exact in_ext rfl (s_5_0 i.rd g0) (s_5_1 i.rn g1) (s_5_2 i.rm g2) (s_5_3 i.ra g3) ((imm_ne (K:=5) (f:=i.form) (by decide)).trans (s_5_4 i.imm g4)) (s_5_5 i.kind g5) ((by_ne (K:=5) (k:=xR 5 i 5) (by decide)).trans (s_5_6 i.by_ g6)) (s_5_7 i.set g7) (s_5_8 i.cond g8) (s_5_9 i.regs g9)
set_option maxRecDepth 100000 in
theorem back_6 (i : IN) (hs : shapeV i.form = 6) (hr : rightR i (ruW 6)) (hg : i.regs <= 9223372036854775807) : readX 6 i = i:=by
 obtain ⟨hf,h1,h2,h3,h4,h5,h6,h7,h8,h9,h10⟩:=hr
 have g0:=has_2 (r:=i.rd) h1
 have g1:=has_0 (r:=i.rn) h2
 have g2:=has_2 (r:=i.rm) h3
 have g3:=has_0 (r:=i.ra) h4
 have g4 : i.imm = 0:=sp_0 h7
 have g5 : i.kind = 0:=(sh_0 rfl h9).1
 have g6 : i.by_ = 0:=sp_0 (sh_0 rfl h9).2
 have g7 : i.set = 0:=h8.elim id fun e=>absurd (show false = true from e.2) Bool.false_ne_true
 have g8 : i.cond = 0:=h6.elim id fun e=>absurd (show false = true from e.1) Bool.false_ne_true
 have g9 : i.regs = 0:=lis_0 rfl h5
 exact in_ext rfl (s_6_0 i.rd g0) (s_6_1 i.rn g1) (s_6_2 i.rm g2) (s_6_3 i.ra g3) ((imm_ne (K:=6) (f:=i.form) (by decide)).trans (s_6_4 i.imm g4)) (s_6_5 i.kind g5) ((by_ne (K:=6) (k:=xR 6 i 5) (by decide)).trans (s_6_6 i.by_ g6)) (s_6_7 i.set g7) (s_6_8 i.cond g8) (s_6_9 i.regs g9)
set_option maxRecDepth 100000 in
theorem back_7 (i : IN) (hs : shapeV i.form = 7) (hr : rightR i (ruW 7)) (hg : i.regs <= 9223372036854775807) : readX 7 i = i:=by
 obtain ⟨hf,h1,h2,h3,h4,h5,h6,h7,h8,h9,h10⟩:=hr
 have g0:=has_0 (r:=i.rd) h1
 have g1:=has_0 (r:=i.rn) h2
 have g2:=has_2 (r:=i.rm) h3
 have g3:=has_0 (r:=i.ra) h4
 have g4 : i.imm = 0:=sp_0 h7
 have g5 : i.kind = 0:=(sh_0 rfl h9).1
 have g6 : i.by_ = 0:=sp_0 (sh_0 rfl h9).2
 have g7 : i.set = 0:=h8.elim id fun e=>absurd (show false = true from e.2) Bool.false_ne_true
 have g8 : i.cond = 0:=h6.elim id fun e=>absurd (show false = true from e.1) Bool.false_ne_true
 have g9 : i.regs = 0:=lis_0 rfl h5
 exact in_ext rfl (s_7_0 i.rd g0) (s_7_1 i.rn g1) (s_7_2 i.rm g2) (s_7_3 i.ra g3) ((imm_ne (K:=7) (f:=i.form) (by decide)).trans (s_7_4 i.imm g4)) (s_7_5 i.kind g5) ((by_ne (K:=7) (k:=xR 7 i 5) (by decide)).trans (s_7_6 i.by_ g6)) (s_7_7 i.set g7) (s_7_8 i.cond g8) (s_7_9 i.regs g9)
set_option maxRecDepth 100000 in
theorem back_8 (i : IN) (hs : shapeV i.form = 8) (hr : rightR i (ruW 8)) (hg : i.regs <= 9223372036854775807) : readX 8 i = i:=by
 obtain ⟨hf,h1,h2,h3,h4,h5,h6,h7,h8,h9,h10⟩:=hr
 have g0:=has_1 (r:=i.rd) h1
 have g1:=has_0 (r:=i.rn) h2
 have g2:=has_0 (r:=i.rm) h3
 have g3:=has_0 (r:=i.ra) h4
 have g4 : 0 <= i.imm /\ i.imm <= 1020 /\ i.imm % 4 = 0:=sp_s (s:=4) (by decide) h7
 have g5 : i.kind = 0:=(sh_0 rfl h9).1
 have g6 : i.by_ = 0:=sp_0 (sh_0 rfl h9).2
 have g7 : i.set = 0:=h8.elim id fun e=>absurd (show false = true from e.2) Bool.false_ne_true
 have g8 : i.cond = 0:=h6.elim id fun e=>absurd (show false = true from e.1) Bool.false_ne_true
 have g9 : i.regs = 0:=lis_0 rfl h5
 exact in_ext rfl (s_8_0 i.rd g0) (s_8_1 i.rn g1) (s_8_2 i.rm g2) (s_8_3 i.ra g3) ((imm_ne (K:=8) (f:=i.form) (by decide)).trans (s_8_4 i.imm g4)) (s_8_5 i.kind g5) ((by_ne (K:=8) (k:=xR 8 i 5) (by decide)).trans (s_8_6 i.by_ g6)) (s_8_7 i.set g7) (s_8_8 i.cond g8) (s_8_9 i.regs g9)
set_option maxRecDepth 100000 in
theorem back_9 (i : IN) (hs : shapeV i.form = 9) (hr : rightR i (ruW 9)) (hg : i.regs <= 9223372036854775807) : readX 9 i = i:=by
 obtain ⟨hf,h1,h2,h3,h4,h5,h6,h7,h8,h9,h10⟩:=hr
 have g0:=has_1 (r:=i.rd) h1
 have g1:=has_1 (r:=i.rn) h2
 have g2:=has_0 (r:=i.rm) h3
 have g3:=has_0 (r:=i.ra) h4
 have g4 : 0 <= i.imm /\ i.imm <= 124 /\ i.imm % 4 = 0:=sp_s (s:=4) (by decide) h7
 have g5 : i.kind = 0:=(sh_0 rfl h9).1
 have g6 : i.by_ = 0:=sp_0 (sh_0 rfl h9).2
 have g7 : i.set = 0:=h8.elim id fun e=>absurd (show false = true from e.2) Bool.false_ne_true
 have g8 : i.cond = 0:=h6.elim id fun e=>absurd (show false = true from e.1) Bool.false_ne_true
 have g9 : i.regs = 0:=lis_0 rfl h5
 exact in_ext rfl (s_9_0 i.rd g0) (s_9_1 i.rn g1) (s_9_2 i.rm g2) (s_9_3 i.ra g3) ((imm_ne (K:=9) (f:=i.form) (by decide)).trans (s_9_4 i.imm g4)) (s_9_5 i.kind g5) ((by_ne (K:=9) (k:=xR 9 i 5) (by decide)).trans (s_9_6 i.by_ g6)) (s_9_7 i.set g7) (s_9_8 i.cond g8) (s_9_9 i.regs g9)
set_option maxRecDepth 100000 in
theorem back_10 (i : IN) (hs : shapeV i.form = 10) (hr : rightR i (ruW 10)) (hg : i.regs <= 9223372036854775807) : readX 10 i = i:=by
 obtain ⟨hf,h1,h2,h3,h4,h5,h6,h7,h8,h9,h10⟩:=hr
 have g0:=has_0 (r:=i.rd) h1
 have g1:=has_0 (r:=i.rn) h2
 have g2:=has_0 (r:=i.rm) h3
 have g3:=has_0 (r:=i.ra) h4
 have g4 : 0 <= i.imm /\ i.imm <= 508 /\ i.imm % 4 = 0:=sp_s (s:=4) (by decide) h7
 have g5 : i.kind = 0:=(sh_0 rfl h9).1
 have g6 : i.by_ = 0:=sp_0 (sh_0 rfl h9).2
 have g7 : i.set = 0:=h8.elim id fun e=>absurd (show false = true from e.2) Bool.false_ne_true
 have g8 : i.cond = 0:=h6.elim id fun e=>absurd (show false = true from e.1) Bool.false_ne_true
 have g9 : i.regs = 0:=lis_0 rfl h5
 exact in_ext rfl (s_10_0 i.rd g0) (s_10_1 i.rn g1) (s_10_2 i.rm g2) (s_10_3 i.ra g3) ((imm_ne (K:=10) (f:=i.form) (by decide)).trans (s_10_4 i.imm g4)) (s_10_5 i.kind g5) ((by_ne (K:=10) (k:=xR 10 i 5) (by decide)).trans (s_10_6 i.by_ g6)) (s_10_7 i.set g7) (s_10_8 i.cond g8) (s_10_9 i.regs g9)
set_option maxRecDepth 100000 in
theorem back_11 (i : IN) (hs : shapeV i.form = 11) (hr : rightR i (ruW 11)) (hg : i.regs <= 9223372036854775807) : readX 11 i = i:=by
 obtain ⟨hf,h1,h2,h3,h4,h5,h6,h7,h8,h9,h10⟩:=hr
 have g0:=has_0 (r:=i.rd) h1
 have g1:=has_0 (r:=i.rn) h2
 have g2:=has_0 (r:=i.rm) h3
 have g3:=has_0 (r:=i.ra) h4
 have g4 : i.imm = 0:=sp_0 h7
 have g5 : i.kind = 0:=(sh_0 rfl h9).1
 have g6 : i.by_ = 0:=sp_0 (sh_0 rfl h9).2
 have g7 : i.set = 0:=h8.elim id fun e=>absurd (show false = true from e.2) Bool.false_ne_true
 have g8 : i.cond = 0:=h6.elim id fun e=>absurd (show false = true from e.1) Bool.false_ne_true
 have g9 : 0 < i.regs /\ i.regs / 16384 % 2 * 16384 + i.regs % 256 = i.regs:=lis_k 14 (by decide) (by decide) rfl h5 hg
 exact in_ext rfl (s_11_0 i.rd g0) (s_11_1 i.rn g1) (s_11_2 i.rm g2) (s_11_3 i.ra g3) ((imm_ne (K:=11) (f:=i.form) (by decide)).trans (s_11_4 i.imm g4)) (s_11_5 i.kind g5) ((by_ne (K:=11) (k:=xR 11 i 5) (by decide)).trans (s_11_6 i.by_ g6)) (s_11_7 i.set g7) (s_11_8 i.cond g8) (s_11_9 i.regs g9)
set_option maxRecDepth 100000 in
theorem back_12 (i : IN) (hs : shapeV i.form = 12) (hr : rightR i (ruW 12)) (hg : i.regs <= 9223372036854775807) : readX 12 i = i:=by
 obtain ⟨hf,h1,h2,h3,h4,h5,h6,h7,h8,h9,h10⟩:=hr
 have g0:=has_0 (r:=i.rd) h1
 have g1:=has_0 (r:=i.rn) h2
 have g2:=has_0 (r:=i.rm) h3
 have g3:=has_0 (r:=i.ra) h4
 have g4 : i.imm = 0:=sp_0 h7
 have g5 : i.kind = 0:=(sh_0 rfl h9).1
 have g6 : i.by_ = 0:=sp_0 (sh_0 rfl h9).2
 have g7 : i.set = 0:=h8.elim id fun e=>absurd (show false = true from e.2) Bool.false_ne_true
 have g8 : i.cond = 0:=h6.elim id fun e=>absurd (show false = true from e.1) Bool.false_ne_true
 have g9 : 0 < i.regs /\ i.regs / 32768 % 2 * 32768 + i.regs % 256 = i.regs:=lis_k 15 (by decide) (by decide) rfl h5 hg
 exact in_ext rfl (s_12_0 i.rd g0) (s_12_1 i.rn g1) (s_12_2 i.rm g2) (s_12_3 i.ra g3) ((imm_ne (K:=12) (f:=i.form) (by decide)).trans (s_12_4 i.imm g4)) (s_12_5 i.kind g5) ((by_ne (K:=12) (k:=xR 12 i 5) (by decide)).trans (s_12_6 i.by_ g6)) (s_12_7 i.set g7) (s_12_8 i.cond g8) (s_12_9 i.regs g9)
set_option maxRecDepth 100000 in
theorem back_13 (i : IN) (hs : shapeV i.form = 13) (hr : rightR i (ruW 13)) (hg : i.regs <= 9223372036854775807) : readX 13 i = i:=by
 obtain ⟨hf,h1,h2,h3,h4,h5,h6,h7,h8,h9,h10⟩:=hr
 have g0:=has_0 (r:=i.rd) h1
 have g1:=has_0 (r:=i.rn) h2
 have g2:=has_0 (r:=i.rm) h3
 have g3:=has_0 (r:=i.ra) h4
 have g4 : i.imm = 0:=sp_0 h7
 have g5 : i.kind = 0:=(sh_0 rfl h9).1
 have g6 : i.by_ = 0:=sp_0 (sh_0 rfl h9).2
 have g7 : i.set = 0:=h8.elim id fun e=>absurd (show false = true from e.2) Bool.false_ne_true
 have g8 : i.cond = 0:=h6.elim id fun e=>absurd (show false = true from e.1) Bool.false_ne_true
 have g9 : i.regs = 0:=lis_0 rfl h5
 exact in_ext rfl (s_13_0 i.rd g0) (s_13_1 i.rn g1) (s_13_2 i.rm g2) (s_13_3 i.ra g3) ((imm_ne (K:=13) (f:=i.form) (by decide)).trans (s_13_4 i.imm g4)) (s_13_5 i.kind g5) ((by_ne (K:=13) (k:=xR 13 i 5) (by decide)).trans (s_13_6 i.by_ g6)) (s_13_7 i.set g7) (s_13_8 i.cond g8) (s_13_9 i.regs g9)
set_option maxRecDepth 100000 in
theorem back_14 (i : IN) (hs : shapeV i.form = 14) (hr : rightR i (ruW 14)) (hg : i.regs <= 9223372036854775807) : readX 14 i = i:=by
 obtain ⟨hf,h1,h2,h3,h4,h5,h6,h7,h8,h9,h10⟩:=hr
 have g0:=has_0 (r:=i.rd) h1
 have g1:=has_0 (r:=i.rn) h2
 have g2:=has_0 (r:=i.rm) h3
 have g3:=has_0 (r:=i.ra) h4
 have g4 : 0 <= i.imm /\ i.imm <= 255 /\ i.imm % 1 = 0:=sp_s (s:=1) (by decide) h7
 have g5 : i.kind = 0:=(sh_0 rfl h9).1
 have g6 : i.by_ = 0:=sp_0 (sh_0 rfl h9).2
 have g7 : i.set = 0:=h8.elim id fun e=>absurd (show false = true from e.2) Bool.false_ne_true
 have g8 : i.cond = 0:=h6.elim id fun e=>absurd (show false = true from e.1) Bool.false_ne_true
 have g9 : i.regs = 0:=lis_0 rfl h5
 exact in_ext rfl (s_14_0 i.rd g0) (s_14_1 i.rn g1) (s_14_2 i.rm g2) (s_14_3 i.ra g3) ((imm_ne (K:=14) (f:=i.form) (by decide)).trans (s_14_4 i.imm g4)) (s_14_5 i.kind g5) ((by_ne (K:=14) (k:=xR 14 i 5) (by decide)).trans (s_14_6 i.by_ g6)) (s_14_7 i.set g7) (s_14_8 i.cond g8) (s_14_9 i.regs g9)
set_option maxRecDepth 100000 in
theorem back_15 (i : IN) (hs : shapeV i.form = 15) (hr : rightR i (ruW 15)) (hg : i.regs <= 9223372036854775807) : readX 15 i = i:=by
 obtain ⟨hf,h1,h2,h3,h4,h5,h6,h7,h8,h9,h10⟩:=hr
 have g0:=has_0 (r:=i.rd) h1
 have g1:=has_0 (r:=i.rn) h2
 have g2:=has_0 (r:=i.rm) h3
 have g3:=has_0 (r:=i.ra) h4
 have g4 : -256 <= i.imm /\ i.imm <= 254 /\ i.imm % 2 = 0:=sp_s (s:=2) (by decide) h7
 have g5 : i.kind = 0:=(sh_0 rfl h9).1
 have g6 : i.by_ = 0:=sp_0 (sh_0 rfl h9).2
 have g7 : i.set = 0:=h8.elim id fun e=>absurd (show false = true from e.2) Bool.false_ne_true
 have g8 : 0 <= i.cond /\ i.cond <= 13:=by rcases h6 with h6 | h6 <;> omega
 have g9 : i.regs = 0:=lis_0 rfl h5
 exact in_ext rfl (s_15_0 i.rd g0) (s_15_1 i.rn g1) (s_15_2 i.rm g2) (s_15_3 i.ra g3) (s_15_4 i.imm g4) (s_15_5 i.kind g5) ((by_ne (K:=15) (k:=xR 15 i 5) (by decide)).trans (s_15_6 i.by_ g6)) (s_15_7 i.set g7) (s_15_8 i.cond g8) (s_15_9 i.regs g9)
set_option maxRecDepth 100000 in
theorem back_16 (i : IN) (hs : shapeV i.form = 16) (hr : rightR i (ruW 16)) (hg : i.regs <= 9223372036854775807) : readX 16 i = i:=by
 obtain ⟨hf,h1,h2,h3,h4,h5,h6,h7,h8,h9,h10⟩:=hr
 have g0:=has_0 (r:=i.rd) h1
 have g1:=has_0 (r:=i.rn) h2
 have g2:=has_0 (r:=i.rm) h3
 have g3:=has_0 (r:=i.ra) h4
 have g4 : -2048 <= i.imm /\ i.imm <= 2046 /\ i.imm % 2 = 0:=sp_s (s:=2) (by decide) h7
 have g5 : i.kind = 0:=(sh_0 rfl h9).1
 have g6 : i.by_ = 0:=sp_0 (sh_0 rfl h9).2
 have g7 : i.set = 0:=h8.elim id fun e=>absurd (show false = true from e.2) Bool.false_ne_true
 have g8 : i.cond = 0:=h6.elim id fun e=>absurd (show false = true from e.1) Bool.false_ne_true
 have g9 : i.regs = 0:=lis_0 rfl h5
 exact in_ext rfl (s_16_0 i.rd g0) (s_16_1 i.rn g1) (s_16_2 i.rm g2) (s_16_3 i.ra g3) (s_16_4 i.imm g4) (s_16_5 i.kind g5) ((by_ne (K:=16) (k:=xR 16 i 5) (by decide)).trans (s_16_6 i.by_ g6)) (s_16_7 i.set g7) (s_16_8 i.cond g8) (s_16_9 i.regs g9)
set_option maxRecDepth 100000 in
theorem back_17 (i : IN) (hs : shapeV i.form = 17) (hr : rightR i (ruW 17)) (hg : i.regs <= 9223372036854775807) : readX 17 i = i:=by
 obtain ⟨hf,h1,h2,h3,h4,h5,h6,h7,h8,h9,h10⟩:=hr
 have g0:=has_3 (r:=i.rd) h1
 have g1:=has_0 (r:=i.rn) h2
 have g2:=has_0 (r:=i.rm) h3
 have g3:=has_0 (r:=i.ra) h4
 have g4 : 0 <= i.imm /\ i.imm <= 65535 /\ i.imm % 1 = 0:=sp_s (s:=1) (by decide) h7
 have g5 : i.kind = 0:=(sh_0 rfl h9).1
 have g6 : i.by_ = 0:=sp_0 (sh_0 rfl h9).2
 have g7 : i.set = 0:=h8.elim id fun e=>absurd (show false = true from e.2) Bool.false_ne_true
 have g8 : i.cond = 0:=h6.elim id fun e=>absurd (show false = true from e.1) Bool.false_ne_true
 have g9 : i.regs = 0:=lis_0 rfl h5
 exact in_ext rfl (s_17_0 i.rd g0) (s_17_1 i.rn g1) (s_17_2 i.rm g2) (s_17_3 i.ra g3) ((imm_ne (K:=17) (f:=i.form) (by decide)).trans (s_17_4 i.imm g4)) (s_17_5 i.kind g5) ((by_ne (K:=17) (k:=xR 17 i 5) (by decide)).trans (s_17_6 i.by_ g6)) (s_17_7 i.set g7) (s_17_8 i.cond g8) (s_17_9 i.regs g9)
set_option maxRecDepth 100000 in
theorem back_18 (i : IN) (hs : shapeV i.form = 18) (hr : rightR i (ruW 18)) (hg : i.regs <= 9223372036854775807) : readX 18 i = i:=by
 obtain ⟨hf,h1,h2,h3,h4,h5,h6,h7,h8,h9,h10⟩:=hr
 have g0:=has_3 (r:=i.rd) h1
 have g1:=has_3 (r:=i.rn) h2
 have g2:=has_0 (r:=i.rm) h3
 have g3:=has_0 (r:=i.ra) h4
 have g4 : 0 <= i.imm /\ i.imm <= 4095 /\ i.imm % 1 = 0:=sp_s (s:=1) (by decide) h7
 have g5 : i.kind = 0:=(sh_0 rfl h9).1
 have g6 : i.by_ = 0:=sp_0 (sh_0 rfl h9).2
 have g7 : i.set = 0 \/ i.set = 1:=h8.imp id fun e=>e.1
 have g8 : i.cond = 0:=h6.elim id fun e=>absurd (show false = true from e.1) Bool.false_ne_true
 have g9 : i.regs = 0:=lis_0 rfl h5
 exact in_ext rfl (s_18_0 i.rd g0) (s_18_1 i.rn g1) (s_18_2 i.rm g2) (s_18_3 i.ra g3) ((imm_ne (K:=18) (f:=i.form) (by decide)).trans (s_18_4 i.imm g4)) (s_18_5 i.kind g5) ((by_ne (K:=18) (k:=xR 18 i 5) (by decide)).trans (s_18_6 i.by_ g6)) (s_18_7 i.set g7) (s_18_8 i.cond g8) (s_18_9 i.regs g9)
set_option maxRecDepth 100000 in
theorem back_19 (i : IN) (hs : shapeV i.form = 19) (hr : rightR i (ruW 19)) (hg : i.regs <= 9223372036854775807) : readX 19 i = i:=by
 obtain ⟨hf,h1,h2,h3,h4,h5,h6,h7,h8,h9,h10⟩:=hr
 have g0:=has_3 (r:=i.rd) h1
 have g1:=has_0 (r:=i.rn) h2
 have g2:=has_0 (r:=i.rm) h3
 have g3:=has_0 (r:=i.ra) h4
 have g4 : 0 <= i.imm /\ i.imm <= 4095 /\ i.imm % 1 = 0:=sp_s (s:=1) (by decide) h7
 have g5 : i.kind = 0:=(sh_0 rfl h9).1
 have g6 : i.by_ = 0:=sp_0 (sh_0 rfl h9).2
 have g7 : i.set = 0 \/ i.set = 1:=h8.imp id fun e=>e.1
 have g8 : i.cond = 0:=h6.elim id fun e=>absurd (show false = true from e.1) Bool.false_ne_true
 have g9 : i.regs = 0:=lis_0 rfl h5
 exact in_ext rfl (s_19_0 i.rd g0) (s_19_1 i.rn g1) (s_19_2 i.rm g2) (s_19_3 i.ra g3) ((imm_ne (K:=19) (f:=i.form) (by decide)).trans (s_19_4 i.imm g4)) (s_19_5 i.kind g5) ((by_ne (K:=19) (k:=xR 19 i 5) (by decide)).trans (s_19_6 i.by_ g6)) (s_19_7 i.set g7) (s_19_8 i.cond g8) (s_19_9 i.regs g9)
set_option maxRecDepth 100000 in
theorem back_20 (i : IN) (hs : shapeV i.form = 20) (hr : rightR i (ruW 20)) (hg : i.regs <= 9223372036854775807) : readX 20 i = i:=by
 obtain ⟨hf,h1,h2,h3,h4,h5,h6,h7,h8,h9,h10⟩:=hr
 have g0:=has_0 (r:=i.rd) h1
 have g1:=has_3 (r:=i.rn) h2
 have g2:=has_0 (r:=i.rm) h3
 have g3:=has_0 (r:=i.ra) h4
 have g4 : 0 <= i.imm /\ i.imm <= 4095 /\ i.imm % 1 = 0:=sp_s (s:=1) (by decide) h7
 have g5 : i.kind = 0:=(sh_0 rfl h9).1
 have g6 : i.by_ = 0:=sp_0 (sh_0 rfl h9).2
 have g7 : i.set = 0:=h8.elim id fun e=>absurd (show false = true from e.2) Bool.false_ne_true
 have g8 : i.cond = 0:=h6.elim id fun e=>absurd (show false = true from e.1) Bool.false_ne_true
 have g9 : i.regs = 0:=lis_0 rfl h5
 exact in_ext rfl (s_20_0 i.rd g0) (s_20_1 i.rn g1) (s_20_2 i.rm g2) (s_20_3 i.ra g3) ((imm_ne (K:=20) (f:=i.form) (by decide)).trans (s_20_4 i.imm g4)) (s_20_5 i.kind g5) ((by_ne (K:=20) (k:=xR 20 i 5) (by decide)).trans (s_20_6 i.by_ g6)) (s_20_7 i.set g7) (s_20_8 i.cond g8) (s_20_9 i.regs g9)
set_option maxRecDepth 100000 in
theorem back_21 (i : IN) (hs : shapeV i.form = 21) (hr : rightR i (ruW 21)) (hg : i.regs <= 9223372036854775807) : readX 21 i = i:=by
 obtain ⟨hf,h1,h2,h3,h4,h5,h6,h7,h8,h9,h10⟩:=hr
 have g0:=has_3 (r:=i.rd) h1
 have g1:=has_3 (r:=i.rn) h2
 have g2:=has_3 (r:=i.rm) h3
 have g3:=has_0 (r:=i.ra) h4
 have g4 : i.imm = 0:=sp_0 h7
 have g6 : barrelV i.kind i.by_:=sh_1 rfl h9
 have g5:=kind_bd g6
 have g7 : i.set = 0 \/ i.set = 1:=h8.imp id fun e=>e.1
 have g8 : i.cond = 0:=h6.elim id fun e=>absurd (show false = true from e.1) Bool.false_ne_true
 have g9 : i.regs = 0:=lis_0 rfl h5
 exact in_ext rfl (s_21_0 i.rd g0) (s_21_1 i.rn g1) (s_21_2 i.rm g2) (s_21_3 i.ra g3) ((imm_ne (K:=21) (f:=i.form) (by decide)).trans (s_21_4 i.imm g4)) (s_21_5 i.kind g5) ((by_in (K:=21) (k:=xR 21 i 5) (by decide)).trans ((congrArg (fun k=>if xR 21 i 6 = 0 /\ (k = 1 \/ k = 2) then 32 else xR 21 i 6) (s_21_5 i.kind g5)).trans (s_by i.kind i.by_ g6))) (s_21_7 i.set g7) (s_21_8 i.cond g8) (s_21_9 i.regs g9)
set_option maxRecDepth 100000 in
theorem back_22 (i : IN) (hs : shapeV i.form = 22) (hr : rightR i (ruW 22)) (hg : i.regs <= 9223372036854775807) : readX 22 i = i:=by
 obtain ⟨hf,h1,h2,h3,h4,h5,h6,h7,h8,h9,h10⟩:=hr
 have g0:=has_3 (r:=i.rd) h1
 have g1:=has_0 (r:=i.rn) h2
 have g2:=has_3 (r:=i.rm) h3
 have g3:=has_0 (r:=i.ra) h4
 have g4 : i.imm = 0:=sp_0 h7
 have g6 : barrelV i.kind i.by_:=sh_1 rfl h9
 have g5:=kind_bd g6
 have g7 : i.set = 0 \/ i.set = 1:=h8.imp id fun e=>e.1
 have g8 : i.cond = 0:=h6.elim id fun e=>absurd (show false = true from e.1) Bool.false_ne_true
 have g9 : i.regs = 0:=lis_0 rfl h5
 exact in_ext rfl (s_22_0 i.rd g0) (s_22_1 i.rn g1) (s_22_2 i.rm g2) (s_22_3 i.ra g3) ((imm_ne (K:=22) (f:=i.form) (by decide)).trans (s_22_4 i.imm g4)) (s_22_5 i.kind g5) ((by_in (K:=22) (k:=xR 22 i 5) (by decide)).trans ((congrArg (fun k=>if xR 22 i 6 = 0 /\ (k = 1 \/ k = 2) then 32 else xR 22 i 6) (s_22_5 i.kind g5)).trans (s_by i.kind i.by_ g6))) (s_22_7 i.set g7) (s_22_8 i.cond g8) (s_22_9 i.regs g9)
set_option maxRecDepth 100000 in
theorem back_23 (i : IN) (hs : shapeV i.form = 23) (hr : rightR i (ruW 23)) (hg : i.regs <= 9223372036854775807) : readX 23 i = i:=by
 obtain ⟨hf,h1,h2,h3,h4,h5,h6,h7,h8,h9,h10⟩:=hr
 have g0:=has_0 (r:=i.rd) h1
 have g1:=has_3 (r:=i.rn) h2
 have g2:=has_3 (r:=i.rm) h3
 have g3:=has_0 (r:=i.ra) h4
 have g4 : i.imm = 0:=sp_0 h7
 have g6 : barrelV i.kind i.by_:=sh_1 rfl h9
 have g5:=kind_bd g6
 have g7 : i.set = 0:=h8.elim id fun e=>absurd (show false = true from e.2) Bool.false_ne_true
 have g8 : i.cond = 0:=h6.elim id fun e=>absurd (show false = true from e.1) Bool.false_ne_true
 have g9 : i.regs = 0:=lis_0 rfl h5
 exact in_ext rfl (s_23_0 i.rd g0) (s_23_1 i.rn g1) (s_23_2 i.rm g2) (s_23_3 i.ra g3) ((imm_ne (K:=23) (f:=i.form) (by decide)).trans (s_23_4 i.imm g4)) (s_23_5 i.kind g5) ((by_in (K:=23) (k:=xR 23 i 5) (by decide)).trans ((congrArg (fun k=>if xR 23 i 6 = 0 /\ (k = 1 \/ k = 2) then 32 else xR 23 i 6) (s_23_5 i.kind g5)).trans (s_by i.kind i.by_ g6))) (s_23_7 i.set g7) (s_23_8 i.cond g8) (s_23_9 i.regs g9)
set_option maxRecDepth 100000 in
theorem back_24 (i : IN) (hs : shapeV i.form = 24) (hr : rightR i (ruW 24)) (hg : i.regs <= 9223372036854775807) : readX 24 i = i:=by
 obtain ⟨hf,h1,h2,h3,h4,h5,h6,h7,h8,h9,h10⟩:=hr
 have g0:=has_3 (r:=i.rd) h1
 have g1:=has_3 (r:=i.rn) h2
 have g2:=has_0 (r:=i.rm) h3
 have g3:=has_0 (r:=i.ra) h4
 have g4 : 0 <= i.imm /\ i.imm <= 4095 /\ i.imm % 1 = 0:=sp_s (s:=1) (by decide) h7
 have g5 : i.kind = 0:=(sh_0 rfl h9).1
 have g6 : i.by_ = 0:=sp_0 (sh_0 rfl h9).2
 have g7 : i.set = 0:=h8.elim id fun e=>absurd (show false = true from e.2) Bool.false_ne_true
 have g8 : i.cond = 0:=h6.elim id fun e=>absurd (show false = true from e.1) Bool.false_ne_true
 have g9 : i.regs = 0:=lis_0 rfl h5
 exact in_ext rfl (s_24_0 i.rd g0) (s_24_1 i.rn g1) (s_24_2 i.rm g2) (s_24_3 i.ra g3) ((imm_ne (K:=24) (f:=i.form) (by decide)).trans (s_24_4 i.imm g4)) (s_24_5 i.kind g5) ((by_ne (K:=24) (k:=xR 24 i 5) (by decide)).trans (s_24_6 i.by_ g6)) (s_24_7 i.set g7) (s_24_8 i.cond g8) (s_24_9 i.regs g9)
set_option maxRecDepth 100000 in
theorem back_25 (i : IN) (hs : shapeV i.form = 25) (hr : rightR i (ruW 25)) (hg : i.regs <= 9223372036854775807) : readX 25 i = i:=by
 obtain ⟨hf,h1,h2,h3,h4,h5,h6,h7,h8,h9,h10⟩:=hr
 have g0:=has_3 (r:=i.rd) h1
 have g1:=has_2 (r:=i.rn) h2
 have g2:=has_0 (r:=i.rm) h3
 have g3:=has_0 (r:=i.ra) h4
 have g4 : 0 <= i.imm /\ i.imm <= 4095 /\ i.imm % 1 = 0:=sp_s (s:=1) (by decide) h7
 have g5 : i.kind = 0:=(sh_0 rfl h9).1
 have g6 : i.by_ = 0:=sp_0 (sh_0 rfl h9).2
 have g7 : i.set = 0:=h8.elim id fun e=>absurd (show false = true from e.2) Bool.false_ne_true
 have g8 : i.cond = 0:=h6.elim id fun e=>absurd (show false = true from e.1) Bool.false_ne_true
 have g9 : i.regs = 0:=lis_0 rfl h5
 exact in_ext rfl (s_25_0 i.rd g0) (s_25_1 i.rn g1) (s_25_2 i.rm g2) (s_25_3 i.ra g3) ((imm_ne (K:=25) (f:=i.form) (by decide)).trans (s_25_4 i.imm g4)) (s_25_5 i.kind g5) ((by_ne (K:=25) (k:=xR 25 i 5) (by decide)).trans (s_25_6 i.by_ g6)) (s_25_7 i.set g7) (s_25_8 i.cond g8) (s_25_9 i.regs g9)
set_option maxRecDepth 100000 in
theorem back_26 (i : IN) (hs : shapeV i.form = 26) (hr : rightR i (ruW 26)) (hg : i.regs <= 9223372036854775807) : readX 26 i = i:=by
 obtain ⟨hf,h1,h2,h3,h4,h5,h6,h7,h8,h9,h10⟩:=hr
 have g0:=has_3 (r:=i.rd) h1
 have g1:=has_2 (r:=i.rn) h2
 have g2:=has_3 (r:=i.rm) h3
 have g3:=has_0 (r:=i.ra) h4
 have g4 : i.imm = 0:=sp_0 h7
 have g5 : i.kind = 0:=(sh_0 rfl h9).1
 have g6 : 0 <= i.by_ /\ i.by_ <= 3 /\ i.by_ % 1 = 0:=sp_s (s:=1) (by decide) (sh_0 rfl h9).2
 have g7 : i.set = 0:=h8.elim id fun e=>absurd (show false = true from e.2) Bool.false_ne_true
 have g8 : i.cond = 0:=h6.elim id fun e=>absurd (show false = true from e.1) Bool.false_ne_true
 have g9 : i.regs = 0:=lis_0 rfl h5
 exact in_ext rfl (s_26_0 i.rd g0) (s_26_1 i.rn g1) (s_26_2 i.rm g2) (s_26_3 i.ra g3) ((imm_ne (K:=26) (f:=i.form) (by decide)).trans (s_26_4 i.imm g4)) (s_26_5 i.kind g5) ((by_ne (K:=26) (k:=xR 26 i 5) (by decide)).trans (s_26_6 i.by_ g6)) (s_26_7 i.set g7) (s_26_8 i.cond g8) (s_26_9 i.regs g9)
set_option maxRecDepth 100000 in
theorem back_27 (i : IN) (hs : shapeV i.form = 27) (hr : rightR i (ruW 27)) (hg : i.regs <= 9223372036854775807) : readX 27 i = i:=by
 obtain ⟨hf,h1,h2,h3,h4,h5,h6,h7,h8,h9,h10⟩:=hr
 have g0:=has_3 (r:=i.rd) h1
 have g1:=has_3 (r:=i.rn) h2
 have g2:=has_3 (r:=i.rm) h3
 have g3:=has_0 (r:=i.ra) h4
 have g4 : i.imm = 0:=sp_0 h7
 have g5 : i.kind = 0:=(sh_0 rfl h9).1
 have g6 : i.by_ = 0:=sp_0 (sh_0 rfl h9).2
 have g7 : i.set = 0 \/ i.set = 1:=h8.imp id fun e=>e.1
 have g8 : i.cond = 0:=h6.elim id fun e=>absurd (show false = true from e.1) Bool.false_ne_true
 have g9 : i.regs = 0:=lis_0 rfl h5
 exact in_ext rfl (s_27_0 i.rd g0) (s_27_1 i.rn g1) (s_27_2 i.rm g2) (s_27_3 i.ra g3) ((imm_ne (K:=27) (f:=i.form) (by decide)).trans (s_27_4 i.imm g4)) (s_27_5 i.kind g5) ((by_ne (K:=27) (k:=xR 27 i 5) (by decide)).trans (s_27_6 i.by_ g6)) (s_27_7 i.set g7) (s_27_8 i.cond g8) (s_27_9 i.regs g9)
set_option maxRecDepth 100000 in
theorem back_28 (i : IN) (hs : shapeV i.form = 28) (hr : rightR i (ruW 28)) (hg : i.regs <= 9223372036854775807) : readX 28 i = i:=by
 obtain ⟨hf,h1,h2,h3,h4,h5,h6,h7,h8,h9,h10⟩:=hr
 have g0:=has_3 (r:=i.rd) h1
 have g1:=has_3 (r:=i.rn) h2
 have g2:=has_3 (r:=i.rm) h3
 have g3:=has_0 (r:=i.ra) h4
 have g4 : i.imm = 0:=sp_0 h7
 have g5 : i.kind = 0:=(sh_0 rfl h9).1
 have g6 : i.by_ = 0:=sp_0 (sh_0 rfl h9).2
 have g7 : i.set = 0:=h8.elim id fun e=>absurd (show false = true from e.2) Bool.false_ne_true
 have g8 : i.cond = 0:=h6.elim id fun e=>absurd (show false = true from e.1) Bool.false_ne_true
 have g9 : i.regs = 0:=lis_0 rfl h5
 exact in_ext rfl (s_28_0 i.rd g0) (s_28_1 i.rn g1) (s_28_2 i.rm g2) (s_28_3 i.ra g3) ((imm_ne (K:=28) (f:=i.form) (by decide)).trans (s_28_4 i.imm g4)) (s_28_5 i.kind g5) ((by_ne (K:=28) (k:=xR 28 i 5) (by decide)).trans (s_28_6 i.by_ g6)) (s_28_7 i.set g7) (s_28_8 i.cond g8) (s_28_9 i.regs g9)
set_option maxRecDepth 100000 in
theorem back_29 (i : IN) (hs : shapeV i.form = 29) (hr : rightR i (ruW 29)) (hg : i.regs <= 9223372036854775807) : readX 29 i = i:=by
 obtain ⟨hf,h1,h2,h3,h4,h5,h6,h7,h8,h9,h10⟩:=hr
 have g0:=has_3 (r:=i.rd) h1
 have g1:=has_3 (r:=i.rn) h2
 have g2:=has_3 (r:=i.rm) h3
 have g3:=has_3 (r:=i.ra) h4
 have g4 : i.imm = 0:=sp_0 h7
 have g5 : i.kind = 0:=(sh_0 rfl h9).1
 have g6 : i.by_ = 0:=sp_0 (sh_0 rfl h9).2
 have g7 : i.set = 0:=h8.elim id fun e=>absurd (show false = true from e.2) Bool.false_ne_true
 have g8 : i.cond = 0:=h6.elim id fun e=>absurd (show false = true from e.1) Bool.false_ne_true
 have g9 : i.regs = 0:=lis_0 rfl h5
 exact in_ext rfl (s_29_0 i.rd g0) (s_29_1 i.rn g1) (s_29_2 i.rm g2) (s_29_3 i.ra g3) ((imm_ne (K:=29) (f:=i.form) (by decide)).trans (s_29_4 i.imm g4)) (s_29_5 i.kind g5) ((by_ne (K:=29) (k:=xR 29 i 5) (by decide)).trans (s_29_6 i.by_ g6)) (s_29_7 i.set g7) (s_29_8 i.cond g8) (s_29_9 i.regs g9)
set_option maxRecDepth 100000 in
theorem back_30 (i : IN) (hs : shapeV i.form = 30) (hr : rightR i (ruW 30)) (hg : i.regs <= 9223372036854775807) : readX 30 i = i:=by
 obtain ⟨hf,h1,h2,h3,h4,h5,h6,h7,h8,h9,h10⟩:=hr
 have g0:=has_3 (r:=i.rd) h1
 have g1:=has_3 (r:=i.rn) h2
 have g2:=has_3 (r:=i.rm) h3
 have g3:=has_3 (r:=i.ra) h4
 have g4 : i.imm = 0:=sp_0 h7
 have g5 : i.kind = 0:=(sh_0 rfl h9).1
 have g6 : i.by_ = 0:=sp_0 (sh_0 rfl h9).2
 have g7 : i.set = 0:=h8.elim id fun e=>absurd (show false = true from e.2) Bool.false_ne_true
 have g8 : i.cond = 0:=h6.elim id fun e=>absurd (show false = true from e.1) Bool.false_ne_true
 have g9 : i.regs = 0:=lis_0 rfl h5
 exact in_ext rfl (s_30_0 i.rd g0) (s_30_1 i.rn g1) (s_30_2 i.rm g2) (s_30_3 i.ra g3) ((imm_ne (K:=30) (f:=i.form) (by decide)).trans (s_30_4 i.imm g4)) (s_30_5 i.kind g5) ((by_ne (K:=30) (k:=xR 30 i 5) (by decide)).trans (s_30_6 i.by_ g6)) (s_30_7 i.set g7) (s_30_8 i.cond g8) (s_30_9 i.regs g9)
set_option maxRecDepth 100000 in
theorem back_31 (i : IN) (hs : shapeV i.form = 31) (hr : rightR i (ruW 31)) (hg : i.regs <= 9223372036854775807) : readX 31 i = i:=by
 obtain ⟨hf,h1,h2,h3,h4,h5,h6,h7,h8,h9,h10⟩:=hr
 have g0:=has_3 (r:=i.rd) h1
 have g1:=has_3 (r:=i.rn) h2
 have g2:=has_3 (r:=i.rm) h3
 have g3:=has_3 (r:=i.ra) h4
 have g4 : i.imm = 0:=sp_0 h7
 have g5 : i.kind = 0:=(sh_0 rfl h9).1
 have g6 : i.by_ = 0:=sp_0 (sh_0 rfl h9).2
 have g7 : i.set = 0:=h8.elim id fun e=>absurd (show false = true from e.2) Bool.false_ne_true
 have g8 : i.cond = 0:=h6.elim id fun e=>absurd (show false = true from e.1) Bool.false_ne_true
 have g9 : i.regs = 0:=lis_0 rfl h5
 exact in_ext rfl (s_31_0 i.rd g0) (s_31_1 i.rn g1) (s_31_2 i.rm g2) (s_31_3 i.ra g3) ((imm_ne (K:=31) (f:=i.form) (by decide)).trans (s_31_4 i.imm g4)) (s_31_5 i.kind g5) ((by_ne (K:=31) (k:=xR 31 i 5) (by decide)).trans (s_31_6 i.by_ g6)) (s_31_7 i.set g7) (s_31_8 i.cond g8) (s_31_9 i.regs g9)
set_option maxRecDepth 100000 in
theorem back_32 (i : IN) (hs : shapeV i.form = 32) (hr : rightR i (ruW 32)) (hg : i.regs <= 9223372036854775807) : readX 32 i = i:=by
 obtain ⟨hf,h1,h2,h3,h4,h5,h6,h7,h8,h9,h10⟩:=hr
 have g0:=has_3 (r:=i.rd) h1
 have g1:=has_0 (r:=i.rn) h2
 have g2:=has_3 (r:=i.rm) h3
 have g3:=has_0 (r:=i.ra) h4
 have g4 : i.imm = 0:=sp_0 h7
 have g5 : i.kind = 0:=(sh_0 rfl h9).1
 have g6 : i.by_ = 0:=sp_0 (sh_0 rfl h9).2
 have g7 : i.set = 0:=h8.elim id fun e=>absurd (show false = true from e.2) Bool.false_ne_true
 have g8 : i.cond = 0:=h6.elim id fun e=>absurd (show false = true from e.1) Bool.false_ne_true
 have g9 : i.regs = 0:=lis_0 rfl h5
 exact in_ext rfl (s_32_0 i.rd g0) (s_32_1 i.rn g1) (s_32_2 i.rm g2) (s_32_3 i.ra g3) ((imm_ne (K:=32) (f:=i.form) (by decide)).trans (s_32_4 i.imm g4)) (s_32_5 i.kind g5) ((by_ne (K:=32) (k:=xR 32 i 5) (by decide)).trans (s_32_6 i.by_ g6)) (s_32_7 i.set g7) (s_32_8 i.cond g8) (s_32_9 i.regs g9)
set_option maxRecDepth 100000 in
theorem back_33 (i : IN) (hs : shapeV i.form = 33) (hr : rightR i (ruW 33)) (hg : i.regs <= 9223372036854775807) : readX 33 i = i:=by
 obtain ⟨hf,h1,h2,h3,h4,h5,h6,h7,h8,h9,h10⟩:=hr
 have g0:=has_0 (r:=i.rd) h1
 have g1:=has_0 (r:=i.rn) h2
 have g2:=has_0 (r:=i.rm) h3
 have g3:=has_0 (r:=i.ra) h4
 have g4 : -1048576 <= i.imm /\ i.imm <= 1048574 /\ i.imm % 2 = 0:=sp_s (s:=2) (by decide) h7
 have g5 : i.kind = 0:=(sh_0 rfl h9).1
 have g6 : i.by_ = 0:=sp_0 (sh_0 rfl h9).2
 have g7 : i.set = 0:=h8.elim id fun e=>absurd (show false = true from e.2) Bool.false_ne_true
 have g8 : 0 <= i.cond /\ i.cond <= 13:=by rcases h6 with h6 | h6 <;> omega
 have g9 : i.regs = 0:=lis_0 rfl h5
 exact in_ext rfl (s_33_0 i.rd g0) (s_33_1 i.rn g1) (s_33_2 i.rm g2) (s_33_3 i.ra g3) (s_33_4 i.imm g4) (s_33_5 i.kind g5) ((by_ne (K:=33) (k:=xR 33 i 5) (by decide)).trans (s_33_6 i.by_ g6)) (s_33_7 i.set g7) (s_33_8 i.cond g8) (s_33_9 i.regs g9)
end Go.Proofs.YtnbngokbamifbaaGreatDoor.Pw
