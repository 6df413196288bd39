import Derived.Test.YtgnmhbkialgeaaaZWireApart25
/- The machine's side of laws of this seat: Go functions as Lean functions, and the proof that a call of each comes to what its function says (written by a program of this session, px.py, that runs the kit's print). -/
namespace Go.Proofs.Ytgnmhbkialgeaaa.R
open Go.RowKit Go.Proofs.YtgnmhbkialgeaaaW.PrintWords Go.Proofs.YtgnmhbkialgeaaaW.PrintLast Go.Proofs.YtgnmhbkialgeaaaW.PrintMore
attribute [local go_sem] max2_int min2_int max_two min_two max_three min_three max_four min_four   -- for this text's walks alone
open Go.Proofs.Ytgnmhbkialgeaaa.Q
attribute [local go_sem high] Go.Proofs.Ytgnmhbkialgeaaa.px_xor_u8 Go.Proofs.Ytgnmhbkialgeaaa.px_xor_u16 Go.Proofs.Ytgnmhbkialgeaaa.px_xor_u32 Go.Proofs.Ytgnmhbkialgeaaa.px_xor_u64
set_option linter.unusedVariables false
set_option linter.unusedSimpArgs false

attribute [local go_sem high] eqA32
set_option hygiene false in
local macro "pxA0_" : term => `(#[.int .i64 a0_0, .int .i64 a0_1, .int .i64 a0_2, .int .i64 a0_3, .int .i64 a0_4, .int .i64 a0_5, .int .i64 a0_6, .int .i64 a0_7, .int .i64 a0_8, .int .i64 a0_9, .int .i64 a0_10, .string a0_11, .string a0_12, .string a0_13, .int .i64 a0_14, .int .i64 a0_15, .int .i64 a0_16, .int .i64 a0_17, .int .i64 a0_18, .int .i64 a0_19, .int .i64 a0_20, .int .i64 a0_21, .int .i64 a0_22, .int .i64 a0_23, .int .i64 a0_24, .string a0_25, .string a0_26, .string a0_27, .int .i64 a0_28, .int .i64 a0_29, .int .i64 a0_30, .int .i64 a0_31, .int .i64 a0_32, .int .i64 a0_33, .int .i64 a0_34, .int .i64 a0_35, .int .i64 a0_36, .string a0_37, (.slice A0_38 l0_38.length c0_38), .int .i64 a0_39, .int .i64 a0_40, .int .i64 a0_41, .int .i64 a0_42, .int .i64 a0_43, .int .i64 a0_44, .int .i64 a0_45, .int .i64 a0_46, .int .i64 a0_47, .string a0_48, (.slice A0_49 l0_49.length c0_49)])
set_option hygiene false in
local macro "pxA1_" : term => `(#[.int .i64 a0_0, .int .i64 a0_1, .int .i64 a0_2, .int .i64 a0_3, .int .i64 a0_4, .int .i64 a0_5, .int .i64 a0_6, .int .i64 a0_7, .int .i64 a0_8, .int .i64 a0_9, .int .i64 a0_10, .string a0_11, .string a0_12, .string a0_13, .int .i64 a0_14, .int .i64 a0_15, .int .i64 a0_16, .int .i64 a0_17, .int .i64 a0_18, .int .i64 a0_19, .int .i64 a0_20, .int .i64 a0_21, .int .i64 a0_22, .int .i64 a0_23, .int .i64 a0_24, .string a0_25, .string a0_26, .string a0_27, .int .i64 a0_28, .int .i64 a0_29, .int .i64 a0_30, .int .i64 a0_31, .int .i64 a0_32, .int .i64 a0_33, .int .i64 a0_34, .int .i64 a0_35, .int .i64 a0_36, .string a0_37, .slice A0_38 l0_38.length c0_38, .int .i64 a0_39, .int .i64 a0_40, .int .i64 a0_41, .int .i64 a0_42, .int .i64 a0_43, .int .i64 a0_44, .int .i64 a0_45, .int .i64 a0_46, .int .i64 a0_47, .string a0_48, .slice A0_49 l0_49.length c0_49])
set_option hygiene false in
local macro "pxA2_" : term => `(#[.int .i64 a0_14, .int .i64 a0_15, .int .i64 a0_16, .int .i64 a0_17, .int .i64 a0_18, .int .i64 a0_19, .int .i64 a0_20, .int .i64 a0_21, .int .i64 a0_22, .int .i64 a0_23, .int .i64 a0_24, .string (⟨#[]⟩ : ByteArray), .string (⟨#[]⟩ : ByteArray), .string (⟨#[]⟩ : ByteArray)])
set_option hygiene false in
local macro "pxA3_" : term => `(#[.int .i64 a0_14, .int .i64 a0_15, .int .i64 a0_16, .int .i64 a0_17, .int .i64 a0_18, .int .i64 a0_19, .int .i64 a0_20, .int .i64 a0_21, .int .i64 a0_22, .int .i64 a0_23, .int .i64 0, .string (⟨#[]⟩ : ByteArray), .string (⟨#[]⟩ : ByteArray), .string (⟨#[]⟩ : ByteArray)])
set_option hygiene false in
local macro "pxA4_" : term => `(#[.int .i64 a0_14, .int .i64 a0_15, .int .i64 a0_16, .int .i64 a0_17, .int .i64 a0_18, .int .i64 a0_19, .int .i64 a0_20, .int .i64 a0_21, .int .i64 a0_22, .int .i64 0, .int .i64 0, .string (⟨#[]⟩ : ByteArray), .string (⟨#[]⟩ : ByteArray), .string (⟨#[]⟩ : ByteArray)])
set_option hygiene false in
local macro "pxA5_" : term => `(#[.int .i64 a0_0, .int .i64 a0_1, .int .i64 a0_2, .int .i64 a0_3, .int .i64 a0_4, .int .i64 a0_5, .int .i64 a0_6, .int .i64 a0_7, .int .i64 a0_8, .int .i64 a0_9, .int .i64 a0_10, .string (⟨#[]⟩ : ByteArray), .string (⟨#[]⟩ : ByteArray), .string (⟨#[]⟩ : ByteArray)])
set_option hygiene false in
local macro "pxA6_" : term => `(#[.int .i64 a0_14, .int .i64 a0_15, .int .i64 a0_16, .int .i64 a0_17, .int .i64 a0_18, .int .i64 a0_19, .int .i64 a0_20, .int .i64 a0_21, .int .i64 0, .int .i64 0, .int .i64 0, .string (⟨#[]⟩ : ByteArray), .string (⟨#[]⟩ : ByteArray), .string (⟨#[]⟩ : ByteArray)])
set_option hygiene false in
local macro "pxA7_" : term => `(#[.int .i64 a0_0, .int .i64 a0_1, .int .i64 a0_2, .int .i64 a0_3, .int .i64 a0_4, .int .i64 a0_5, .int .i64 a0_6, .int .i64 a0_7, .int .i64 a0_8, .int .i64 a0_9, .int .i64 0, .string (⟨#[]⟩ : ByteArray), .string (⟨#[]⟩ : ByteArray), .string (⟨#[]⟩ : ByteArray)])
set_option hygiene false in
local macro "pxA8_" : term => `(#[.int .i64 a0_14, .int .i64 a0_15, .int .i64 a0_16, .int .i64 a0_17, .int .i64 a0_18, .int .i64 a0_19, .int .i64 a0_20, .int .i64 a0_21, .int .i64 a0_22, .int .i64 a0_23, .int .i64 a0_24, .string a0_25, .string (⟨#[]⟩ : ByteArray), .string (⟨#[]⟩ : ByteArray)])
set_option hygiene false in
local macro "pxA9_" : term => `(#[.int .i64 a0_14, .int .i64 a0_15, .int .i64 a0_16, .int .i64 a0_17, .int .i64 a0_18, .int .i64 a0_19, .int .i64 a0_20, .int .i64 0, .int .i64 0, .int .i64 0, .int .i64 0, .string (⟨#[]⟩ : ByteArray), .string (⟨#[]⟩ : ByteArray), .string (⟨#[]⟩ : ByteArray)])
set_option hygiene false in
local macro "pxA10_" : term => `(#[.int .i64 a0_0, .int .i64 a0_1, .int .i64 a0_2, .int .i64 a0_3, .int .i64 a0_4, .int .i64 a0_5, .int .i64 a0_6, .int .i64 a0_7, .int .i64 a0_8, .int .i64 0, .int .i64 0, .string (⟨#[]⟩ : ByteArray), .string (⟨#[]⟩ : ByteArray), .string (⟨#[]⟩ : ByteArray)])
set_option hygiene false in
local macro "pxA11_" : term => `(#[.int .i64 a0_0, .int .i64 a0_1, .int .i64 a0_2, .int .i64 a0_3, .int .i64 a0_4, .int .i64 a0_5, .int .i64 a0_6, .int .i64 a0_7, .int .i64 0, .int .i64 0, .int .i64 0, .string (⟨#[]⟩ : ByteArray), .string (⟨#[]⟩ : ByteArray), .string (⟨#[]⟩ : ByteArray)])
set_option hygiene false in
local macro "pxA12_" : term => `(#[.int .i64 a0_14, .int .i64 a0_15, .int .i64 a0_16, .int .i64 a0_17, .int .i64 a0_18, .int .i64 a0_19, .int .i64 0, .int .i64 0, .int .i64 0, .int .i64 0, .int .i64 0, .string (⟨#[]⟩ : ByteArray), .string (⟨#[]⟩ : ByteArray), .string (⟨#[]⟩ : ByteArray)])
set_option hygiene false in
local macro "pxA13_" : term => `(#[.int .i64 a0_0, .int .i64 a0_1, .int .i64 a0_2, .int .i64 a0_3, .int .i64 a0_4, .int .i64 a0_5, .int .i64 a0_6, .int .i64 0, .int .i64 0, .int .i64 0, .int .i64 0, .string (⟨#[]⟩ : ByteArray), .string (⟨#[]⟩ : ByteArray), .string (⟨#[]⟩ : ByteArray)])
set_option hygiene false in
local macro "pxA14_" : term => `(#[.int .i64 a0_0, .int .i64 a0_1, .int .i64 a0_2, .int .i64 a0_3, .int .i64 a0_4, .int .i64 a0_5, .int .i64 a0_6, .int .i64 a0_7, .int .i64 a0_8, .int .i64 a0_9, .int .i64 a0_10, .string a0_11, .string (⟨#[]⟩ : ByteArray), .string (⟨#[]⟩ : ByteArray)])
set_option hygiene false in
local macro "pxA15_" : term => `(#[.int .i64 a0_14, .int .i64 a0_15, .int .i64 a0_16, .int .i64 a0_17, .int .i64 a0_18, .int .i64 0, .int .i64 0, .int .i64 0, .int .i64 0, .int .i64 0, .int .i64 0, .string (⟨#[]⟩ : ByteArray), .string (⟨#[]⟩ : ByteArray), .string (⟨#[]⟩ : ByteArray)])
set_option hygiene false in
local macro "pxA16_" : term => `(#[.int .i64 a0_0, .int .i64 a0_1, .int .i64 a0_2, .int .i64 a0_3, .int .i64 a0_4, .int .i64 a0_5, .int .i64 0, .int .i64 0, .int .i64 0, .int .i64 0, .int .i64 0, .string (⟨#[]⟩ : ByteArray), .string (⟨#[]⟩ : ByteArray), .string (⟨#[]⟩ : ByteArray)])
set_option hygiene false in
local macro "pxA17_" : term => `(#[.int .i64 a0_14, .int .i64 a0_15, .int .i64 a0_16, .int .i64 a0_17, .int .i64 a0_18, .int .i64 a0_19, .int .i64 a0_20, .int .i64 a0_21, .int .i64 a0_22, .int .i64 a0_23, .int .i64 a0_24, .string a0_25, .string a0_26, .string (⟨#[]⟩ : ByteArray)])
set_option hygiene false in
local macro "pxA18_" : term => `(#[.int .i64 a0_14, .int .i64 a0_15, .int .i64 a0_16, .int .i64 a0_17, .int .i64 0, .int .i64 0, .int .i64 0, .int .i64 0, .int .i64 0, .int .i64 0, .int .i64 0, .string (⟨#[]⟩ : ByteArray), .string (⟨#[]⟩ : ByteArray), .string (⟨#[]⟩ : ByteArray)])
set_option hygiene false in
local macro "pxA19_" : term => `(#[.int .i64 a0_0, .int .i64 a0_1, .int .i64 a0_2, .int .i64 a0_3, .int .i64 a0_4, .int .i64 0, .int .i64 0, .int .i64 0, .int .i64 0, .int .i64 0, .int .i64 0, .string (⟨#[]⟩ : ByteArray), .string (⟨#[]⟩ : ByteArray), .string (⟨#[]⟩ : ByteArray)])
set_option hygiene false in
local macro "pxA20_" : term => `(#[.int .i64 a0_0, .int .i64 a0_1, .int .i64 a0_2, .int .i64 a0_3, .int .i64 0, .int .i64 0, .int .i64 0, .int .i64 0, .int .i64 0, .int .i64 0, .int .i64 0, .string (⟨#[]⟩ : ByteArray), .string (⟨#[]⟩ : ByteArray), .string (⟨#[]⟩ : ByteArray)])
set_option hygiene false in
local macro "pxA21_" : term => `(#[.int .i64 a0_14, .int .i64 a0_15, .int .i64 a0_16, .int .i64 0, .int .i64 0, .int .i64 0, .int .i64 0, .int .i64 0, .int .i64 0, .int .i64 0, .int .i64 0, .string (⟨#[]⟩ : ByteArray), .string (⟨#[]⟩ : ByteArray), .string (⟨#[]⟩ : ByteArray)])
set_option hygiene false in
local macro "pxA22_" : term => `(#[.int .i64 a0_0, .int .i64 a0_1, .int .i64 a0_2, .int .i64 0, .int .i64 0, .int .i64 0, .int .i64 0, .int .i64 0, .int .i64 0, .int .i64 0, .int .i64 0, .string (⟨#[]⟩ : ByteArray), .string (⟨#[]⟩ : ByteArray), .string (⟨#[]⟩ : ByteArray)])
set_option hygiene false in
local macro "pxA23_" : term => `(#[.int .i64 a0_14, .int .i64 a0_15, .int .i64 0, .int .i64 0, .int .i64 0, .int .i64 0, .int .i64 0, .int .i64 0, .int .i64 0, .int .i64 0, .int .i64 0, .string (⟨#[]⟩ : ByteArray), .string (⟨#[]⟩ : ByteArray), .string (⟨#[]⟩ : ByteArray)])
set_option hygiene false in
local macro "pxA24_" : term => `(#[.int .i64 a0_0, .int .i64 a0_1, .int .i64 a0_2, .int .i64 a0_3, .int .i64 a0_4, .int .i64 a0_5, .int .i64 a0_6, .int .i64 a0_7, .int .i64 a0_8, .int .i64 a0_9, .int .i64 a0_10, .string a0_11, .string a0_12, .string (⟨#[]⟩ : ByteArray)])
set_option hygiene false in
local macro "pxA25_" : term => `(#[.int .i64 a0_0, .int .i64 a0_1, .int .i64 0, .int .i64 0, .int .i64 0, .int .i64 0, .int .i64 0, .int .i64 0, .int .i64 0, .int .i64 0, .int .i64 0, .string (⟨#[]⟩ : ByteArray), .string (⟨#[]⟩ : ByteArray), .string (⟨#[]⟩ : ByteArray)])
set_option hygiene false in
local macro "pxA26_" : term => `(#[.int .i64 a0_14, .int .i64 0, .int .i64 0, .int .i64 0, .int .i64 0, .int .i64 0, .int .i64 0, .int .i64 0, .int .i64 0, .int .i64 0, .int .i64 0, .string (⟨#[]⟩ : ByteArray), .string (⟨#[]⟩ : ByteArray), .string (⟨#[]⟩ : ByteArray)])
set_option hygiene false in
local macro "pxA27_" : term => `(#[.int .i64 a0_0, .int .i64 0, .int .i64 0, .int .i64 0, .int .i64 0, .int .i64 0, .int .i64 0, .int .i64 0, .int .i64 0, .int .i64 0, .int .i64 0, .string (⟨#[]⟩ : ByteArray), .string (⟨#[]⟩ : ByteArray), .string (⟨#[]⟩ : ByteArray)])
set_option hygiene false in
local macro "pxA28_" : term => `(#[.int .i64 a0_14, .int .i64 a0_15, .int .i64 a0_16, .int .i64 a0_17, .int .i64 a0_18, .int .i64 a0_19, .int .i64 a0_20, .int .i64 a0_21, .int .i64 a0_22, .int .i64 a0_23, .int .i64 a0_24, .string a0_25, .string a0_26, .string a0_27])
set_option hygiene false in
local macro "pxA29_" : term => `(#[.int .i64 0, .int .i64 0, .int .i64 0, .int .i64 0, .int .i64 0, .int .i64 0, .int .i64 0, .int .i64 0, .int .i64 0, .int .i64 0, .int .i64 0, .string (⟨#[]⟩ : ByteArray), .string (⟨#[]⟩ : ByteArray), .string (⟨#[]⟩ : ByteArray)])
set_option hygiene false in
local macro "pxA30_" : term => `(#[.int .i64 a0_0, .int .i64 a0_1, .int .i64 a0_2, .int .i64 a0_3, .int .i64 a0_4, .int .i64 a0_5, .int .i64 a0_6, .int .i64 a0_7, .int .i64 a0_8, .int .i64 a0_9, .int .i64 a0_10, .string a0_11, .string a0_12, .string a0_13])
set_option hygiene false in
local macro "pxA31_" : term => `(#[.int .i64 a0_28, .int .i64 a0_29, .int .i64 a0_30, .int .i64 a0_31, .int .i64 a0_32, .int .i64 a0_33, .int .i64 a0_34, .int .i64 a0_35, .int .i64 a0_36, .string a0_37, (.slice A0_38 l0_38.length c0_38)])
set_option hygiene false in
local macro "pxA32_" : term => `(#[.int .i64 a0_39, .int .i64 a0_40, .int .i64 a0_41, .int .i64 a0_42, .int .i64 a0_43, .int .i64 a0_44, .int .i64 a0_45, .int .i64 a0_46, .int .i64 a0_47, .string a0_48, (.slice A0_49 l0_49.length c0_49)])
set_option hygiene false in
local macro "pxA33_" : term => `(#[.int .i64 a0_28, .int .i64 a0_29, .int .i64 a0_30, .int .i64 a0_31, .int .i64 a0_32, .int .i64 a0_33, .int .i64 a0_34, .int .i64 a0_35, .int .i64 a0_36, .string a0_37, .slice A0_38 l0_38.length c0_38])
set_option hygiene false in
local macro "pxA34_" : term => `(#[.int .i64 a0_39, .int .i64 a0_40, .int .i64 a0_41, .int .i64 a0_42, .int .i64 a0_43, .int .i64 a0_44, .int .i64 a0_45, .int .i64 a0_46, .int .i64 a0_47, .string a0_48, .slice A0_49 l0_49.length c0_49])
set_option hygiene false in
local macro "pxA35_" : term => `(#[.int .i64 a0_28, .int .i64 a0_29, .int .i64 a0_30, .int .i64 a0_31, .int .i64 a0_32, .int .i64 a0_33, .int .i64 a0_34, .int .i64 a0_35, .int .i64 a0_36, .string (⟨#[]⟩ : ByteArray), .slice none 0 0])
set_option hygiene false in
local macro "pxA36_" : term => `(#[.int .i64 a0_28, .int .i64 a0_29, .int .i64 a0_30, .int .i64 a0_31, .int .i64 a0_32, .int .i64 a0_33, .int .i64 a0_34, .int .i64 a0_35, .int .i64 0, .string (⟨#[]⟩ : ByteArray), .slice none 0 0])
set_option hygiene false in
local macro "pxA37_" : term => `(#[.int .i64 a0_28, .int .i64 a0_29, .int .i64 a0_30, .int .i64 a0_31, .int .i64 a0_32, .int .i64 a0_33, .int .i64 a0_34, .int .i64 0, .int .i64 0, .string (⟨#[]⟩ : ByteArray), .slice none 0 0])
set_option hygiene false in
local macro "pxA38_" : term => `(#[.int .i64 a0_28, .int .i64 a0_29, .int .i64 a0_30, .int .i64 a0_31, .int .i64 a0_32, .int .i64 a0_33, .int .i64 0, .int .i64 0, .int .i64 0, .string (⟨#[]⟩ : ByteArray), .slice none 0 0])
set_option hygiene false in
local macro "pxA39_" : term => `(#[.int .i64 a0_28, .int .i64 a0_29, .int .i64 a0_30, .int .i64 a0_31, .int .i64 a0_32, .int .i64 a0_33, .int .i64 a0_34, .int .i64 a0_35, .int .i64 a0_36, .string a0_37, .slice none 0 0])
set_option hygiene false in
local macro "pxA40_" : term => `(#[.int .i64 a0_28, .int .i64 a0_29, .int .i64 a0_30, .int .i64 a0_31, .int .i64 a0_32, .int .i64 0, .int .i64 0, .int .i64 0, .int .i64 0, .string (⟨#[]⟩ : ByteArray), .slice none 0 0])
set_option hygiene false in
local macro "pxA41_" : term => `(#[.int .i64 a0_28, .int .i64 a0_29, .int .i64 a0_30, .int .i64 a0_31, .int .i64 0, .int .i64 0, .int .i64 0, .int .i64 0, .int .i64 0, .string (⟨#[]⟩ : ByteArray), .slice none 0 0])
set_option hygiene false in
local macro "pxA42_" : term => `(#[.int .i64 a0_28, .int .i64 a0_29, .int .i64 a0_30, .int .i64 0, .int .i64 0, .int .i64 0, .int .i64 0, .int .i64 0, .int .i64 0, .string (⟨#[]⟩ : ByteArray), .slice none 0 0])
set_option hygiene false in
local macro "pxA43_" : term => `(#[.int .i64 a0_28, .int .i64 a0_29, .int .i64 0, .int .i64 0, .int .i64 0, .int .i64 0, .int .i64 0, .int .i64 0, .int .i64 0, .string (⟨#[]⟩ : ByteArray), .slice none 0 0])
set_option hygiene false in
local macro "pxA44_" : term => `(#[.int .i64 a0_28, .int .i64 0, .int .i64 0, .int .i64 0, .int .i64 0, .int .i64 0, .int .i64 0, .int .i64 0, .int .i64 0, .string (⟨#[]⟩ : ByteArray), .slice none 0 0])
set_option hygiene false in
local macro "pxA45_" : term => `(#[.int .i64 0, .int .i64 0, .int .i64 0, .int .i64 0, .int .i64 0, .int .i64 0, .int .i64 0, .int .i64 0, .int .i64 0, .string (⟨#[]⟩ : ByteArray), .slice none 0 0])
set_option hygiene false in
local macro "pxA46_" : term => `(#[.agg #[.int .i64 a0_6, .int .i64 a0_7, .int .i64 a0_8, .int .i64 a0_9, .int .i64 a0_10, .string a0_11, .string a0_12, .string a0_13]])
set_option hygiene false in
local macro "pxA47_" : term => `(#[.int .i64 a0_6, .int .i64 a0_7, .int .i64 a0_8, .int .i64 a0_9, .int .i64 a0_10, .string a0_11, .string a0_12, .string a0_13])
local macro "pxh_" h:ident w:ident g:ident i:num v:term:max b:ident : tactic => `(tactic| have $h : ($w).cell? ⟨$g, $i, none⟩ = some $v := (blk_cell ($b).out $i).trans rfl)
local macro "pxk_" b:ident i:num : term => `((blk_cell ($b).out $i).trans rfl)
local macro "pxf_" h:ident b:ident i:num : tactic => `(tactic| have $h := blk_frozen ($b).out $i)
set_option hygiene false in
local macro "pxL0_" : tactic => `(tactic| case rel => exact ⟨_, (true), (by first | rfl | (simp; done) | (simp [*]; done)), H', ⟨by first | omega | exact Nat.le_refl _⟩, ⟨by (with_reducible repeat (first | refine blk_drewN ?_ _ | refine blk_drew ?_ | refine blk_alloc ?_ _)); exact BK101.out⟩, ⟨by (with_reducible repeat (first | refine blk_drewN ?_ _ | refine blk_drew ?_ | refine blk_alloc ?_ _)); exact BK102.out⟩, ⟨by (with_reducible repeat (first | refine blk_drewN ?_ _ | refine blk_drew ?_ | refine blk_alloc ?_ _)); exact BK103.out⟩, ⟨by (with_reducible repeat (first | refine blk_drewN ?_ _ | refine blk_drew ?_ | refine blk_alloc ?_ _)); exact BK104.out⟩, ⟨by (with_reducible repeat (first | refine blk_drewN ?_ _ | refine blk_drew ?_ | refine blk_alloc ?_ _)); exact BK105.out⟩, ⟨by repeat (first | (with_reducible first | exact HB.out | apply below_alloc | apply pw_below_drewN | apply below_drew1 | refine below_set ?_ GE101.out | refine below_set ?_ GE102.out | refine below_set ?_ GE103.out | refine below_set ?_ GE104.out | refine below_set ?_ GE105.out) | exact HB.out)⟩⟩)
set_option hygiene false in
local macro "pxL1_" : tactic => `(tactic| have H1 : (copyholdlaw15_WireApart.j0 k t106 true a0_0 a0_1 a0_2 a0_3 a0_4 a0_5 a0_6 a0_7 a0_8 a0_9 a0_10 a0_11 a0_12 a0_13 a0_14 a0_15 a0_16 a0_17 a0_18 a0_19 a0_20 a0_21 a0_22 a0_23 a0_24 a0_25 a0_26 a0_27 a0_28 a0_29 a0_30 a0_31 a0_32 a0_33 a0_34 a0_35 a0_36 a0_37 l0_38 a0_39 a0_40 a0_41 a0_42 a0_43 a0_44 a0_45 a0_46 a0_47 a0_48 l0_49) = some r := by rw [if_neg (show ¬ (false = true) by decide)] at H; exact H)
set_option hygiene false in
local macro "pxL2_" : tactic => `(tactic| exact ⟨by first | rfl | (simp [errW_none, errW_some] <;> rfl) | (simp [*, errW_none, errW_some] <;> rfl), by repeat (first | (with_reducible first | exact HB.out | apply below_alloc | apply pw_below_drewN | apply below_drew1 | refine below_set ?_ GE101.out | refine below_set ?_ GE102.out | refine below_set ?_ GE103.out | refine below_set ?_ GE104.out | refine below_set ?_ GE105.out) | exact HB.out)⟩)
set_option hygiene false in
local macro "pxL3_" : tactic => `(tactic| have n0_ := Aside0.mk (blk_below (g := gb101) (o := .cells pxA1_ 39 (0, 0)) (by (with_reducible repeat (first | refine blk_drewN ?_ _ | refine blk_drew ?_ | refine blk_alloc ?_ _)); exact BK101.out) hb))
set_option hygiene false in
local macro "pxL4_" : tactic => `(tactic| have n1_ := Aside0.mk (blk_below (g := gb102) (o := .cells pxA30_ 32 (0, 0)) (by (with_reducible repeat (first | refine blk_drewN ?_ _ | refine blk_drew ?_ | refine blk_alloc ?_ _)); exact BK102.out) hb))
set_option hygiene false in
local macro "pxL5_" : tactic => `(tactic| have n2_ := Aside0.mk (blk_below (g := gb103) (o := .cells pxA28_ 32 (0, 0)) (by (with_reducible repeat (first | refine blk_drewN ?_ _ | refine blk_drew ?_ | refine blk_alloc ?_ _)); exact BK103.out) hb))
set_option hygiene false in
local macro "pxL6_" : tactic => `(tactic| have n3_ := Aside0.mk (blk_below (g := gb104) (o := .cells pxA33_ 37 (0, 0)) (by (with_reducible repeat (first | refine blk_drewN ?_ _ | refine blk_drew ?_ | refine blk_alloc ?_ _)); exact BK104.out) hb))
set_option hygiene false in
local macro "pxL7_" : tactic => `(tactic| have n4_ := Aside0.mk (blk_below (g := gb105) (o := .cells pxA34_ 37 (0, 0)) (by (with_reducible repeat (first | refine blk_drewN ?_ _ | refine blk_drew ?_ | refine blk_alloc ?_ _)); exact BK105.out) hb))
set_option hygiene false in
local macro "pxL8_" : tactic => `(tactic| have n5_ := Aside0.mk (below_step (by repeat (first | (with_reducible first | exact HB.out | apply below_alloc | apply pw_below_drewN | apply below_drew1 | refine below_set ?_ GE101.out | refine below_set ?_ GE102.out | refine below_set ?_ GE103.out | refine below_set ?_ GE104.out | refine below_set ?_ GE105.out) | exact HB.out)) hb))
set_option hygiene false in
local macro "pxL9_" : tactic => `(tactic| refine hK.out _ _ ⟨pxk_ BK102 0, pxk_ BK102 1, pxk_ BK102 2, pxk_ BK102 3, pxk_ BK102 4, pxk_ BK102 5, pxk_ BK102 6, pxk_ BK102 7, pxk_ BK102 8, pxk_ BK102 9, pxk_ BK102 10, pxk_ BK102 11, pxk_ BK102 12, pxk_ BK102 13, pxk_ BK103 0, pxk_ BK103 1, pxk_ BK103 2, pxk_ BK103 3, pxk_ BK103 4, pxk_ BK103 5, pxk_ BK103 6, pxk_ BK103 7, pxk_ BK103 8, pxk_ BK103 9, pxk_ BK103 10, pxk_ BK103 11, pxk_ BK103 12, pxk_ BK103 13, pxk_ BK104 0, pxk_ BK104 1, pxk_ BK104 2, pxk_ BK104 3, pxk_ BK104 4, pxk_ BK104 5, pxk_ BK104 6, pxk_ BK104 7, pxk_ BK104 8, pxk_ BK104 9, pxk_ BK104 10, pxk_ BK105 0, pxk_ BK105 1, pxk_ BK105 2, pxk_ BK105 3, pxk_ BK105 4, pxk_ BK105 5, pxk_ BK105 6, pxk_ BK105 7, pxk_ BK105 8, pxk_ BK105 9, pxk_ BK105 10⟩ (fun hHeld => ?_))
/-! ### copyholdlaw15_WireApart: function 4 -/
mutual
def copyholdlaw15_WireApart.j0 : Nat → Bool → Bool → Int → Int → Int → Int → Int → Int → Int → Int → Int → Int → Int → ByteArray → ByteArray → ByteArray → Int → Int → Int → Int → Int → Int → Int → Int → Int → Int → Int → ByteArray → ByteArray → ByteArray → Int → Int → Int → Int → Int → Int → Int → Int → Int → ByteArray → List ByteArray → Int → Int → Int → Int → Int → Int → Int → Int → Int → ByteArray → List ByteArray → Option (Bool)
  | 0, _, _, _, _, _, _, _, _, _, _, _, _, _, _, _, _, _, _, _, _, _, _, _, _, _, _, _, _, _, _, _, _, _, _, _, _, _, _, _, _, _, _, _, _, _, _, _, _, _, _, _, _ => none
  | k + 1, x7, x54, x103000, x103001, x103002, x103003, x103004, x103005, x103006, x103007, x103008, x103009, x103010, x103011, x103012, x103013, x104000, x104001, x104002, x104003, x104004, x104005, x104006, x104007, x104008, x104009, x104010, x104011, x104012, x104013, x105000, x105001, x105002, x105003, x105004, x105005, x105006, x105007, x105008, x105009, x105010, x106000, x106001, x106002, x106003, x106004, x106005, x106006, x106007, x106008, x106009, x106010 => if x54 = true then (some x7) else (copyholdlaw15_WireApart.l0 k x7 0 0 x103000 x103001 x103002 x103003 x103004 x103005 x103006 x103007 x103008 x103009 x103010 x103011 x103012 x103013 x104000 x104001 x104002 x104003 x104004 x104005 x104006 x104007 x104008 x104009 x104010 x104011 x104012 x104013 x105000 x105001 x105002 x105003 x105004 x105005 x105006 x105007 x105008 x105009 x105010 x106000 x106001 x106002 x106003 x106004 x106005 x106006 x106007 x106008 x106009 x106010)
def copyholdlaw15_WireApart.l0 : Nat → Bool → Int → Int → Int → Int → Int → Int → Int → Int → Int → Int → Int → Int → Int → ByteArray → ByteArray → ByteArray → Int → Int → Int → Int → Int → Int → Int → Int → Int → Int → Int → ByteArray → ByteArray → ByteArray → Int → Int → Int → Int → Int → Int → Int → Int → Int → ByteArray → List ByteArray → Int → Int → Int → Int → Int → Int → Int → Int → Int → ByteArray → List ByteArray → Option (Bool)
  | 0, _, _, _, _, _, _, _, _, _, _, _, _, _, _, _, _, _, _, _, _, _, _, _, _, _, _, _, _, _, _, _, _, _, _, _, _, _, _, _, _, _, _, _, _, _, _, _, _, _, _, _, _, _ => none
  | k + 1, x7, x8, x9, x103000, x103001, x103002, x103003, x103004, x103005, x103006, x103007, x103008, x103009, x103010, x103011, x103012, x103013, x104000, x104001, x104002, x104003, x104004, x104005, x104006, x104007, x104008, x104009, x104010, x104011, x104012, x104013, x105000, x105001, x105002, x105003, x105004, x105005, x105006, x105007, x105008, x105009, x105010, x106000, x106001, x106002, x106003, x106004, x106005, x106006, x106007, x106008, x106009, x106010 => if x9 < (x105010.length : Int) then (if 0 ≤ x9 then (copyholdlaw15_WireApart.l0 k x7 (wrap64 (x8 + ((rdOf ByteArray.empty x105010 x9).size : Int))) (wrap64 (x9 + 1)) x103000 x103001 x103002 x103003 x103004 x103005 x103006 x103007 x103008 x103009 x103010 x103011 x103012 x103013 x104000 x104001 x104002 x104003 x104004 x104005 x104006 x104007 x104008 x104009 x104010 x104011 x104012 x104013 x105000 x105001 x105002 x105003 x105004 x105005 x105006 x105007 x105008 x105009 x105010 x106000 x106001 x106002 x106003 x106004 x106005 x106006 x106007 x106008 x106009 x106010) else (none)) else (copyholdlaw15_WireApart.l1 k x7 x8 0 x103000 x103001 x103002 x103003 x103004 x103005 x103006 x103007 x103008 x103009 x103010 x103011 x103012 x103013 x104000 x104001 x104002 x104003 x104004 x104005 x104006 x104007 x104008 x104009 x104010 x104011 x104012 x104013 x105000 x105001 x105002 x105003 x105004 x105005 x105006 x105007 x105008 x105009 x105010 x106000 x106001 x106002 x106003 x106004 x106005 x106006 x106007 x106008 x106009 x106010)
def copyholdlaw15_WireApart.l1 : Nat → Bool → Int → Int → Int → Int → Int → Int → Int → Int → Int → Int → Int → Int → Int → ByteArray → ByteArray → ByteArray → Int → Int → Int → Int → Int → Int → Int → Int → Int → Int → Int → ByteArray → ByteArray → ByteArray → Int → Int → Int → Int → Int → Int → Int → Int → Int → ByteArray → List ByteArray → Int → Int → Int → Int → Int → Int → Int → Int → Int → ByteArray → List ByteArray → Option (Bool)
  | 0, _, _, _, _, _, _, _, _, _, _, _, _, _, _, _, _, _, _, _, _, _, _, _, _, _, _, _, _, _, _, _, _, _, _, _, _, _, _, _, _, _, _, _, _, _, _, _, _, _, _, _, _, _ => none
  | k + 1, x7, x8, x10, x103000, x103001, x103002, x103003, x103004, x103005, x103006, x103007, x103008, x103009, x103010, x103011, x103012, x103013, x104000, x104001, x104002, x104003, x104004, x104005, x104006, x104007, x104008, x104009, x104010, x104011, x104012, x104013, x105000, x105001, x105002, x105003, x105004, x105005, x105006, x105007, x105008, x105009, x105010, x106000, x106001, x106002, x106003, x106004, x106005, x106006, x106007, x106008, x106009, x106010 => if x10 < (x106010.length : Int) then (if 0 ≤ x10 then (copyholdlaw15_WireApart.l1 k x7 (wrap64 (x8 + ((rdOf ByteArray.empty x106010 x10).size : Int))) (wrap64 (x10 + 1)) x103000 x103001 x103002 x103003 x103004 x103005 x103006 x103007 x103008 x103009 x103010 x103011 x103012 x103013 x104000 x104001 x104002 x104003 x104004 x104005 x104006 x104007 x104008 x104009 x104010 x104011 x104012 x104013 x105000 x105001 x105002 x105003 x105004 x105005 x105006 x105007 x105008 x105009 x105010 x106000 x106001 x106002 x106003 x106004 x106005 x106006 x106007 x106008 x106009 x106010) else (none)) else (if x8 > 4000 then (some x7) else ((copyholdref15_Same.f k x105000 x105001 x105002 x105003 x105004 x105005 x105006 x105007 x105008 x105009 x105010 x106000 x106001 x106002 x106003 x106004 x106005 x106006 x106007 x106008 x106009 x106010).bind fun t111 => (if x7 = true then ((wire_Msg.f x103000 x103001 x103002 x103003 x103004 x103005 x103006 x103007 x103008 x103009 x103010 x103011 x103012 x103013).bind fun t112 => ((wire_Msg.f x104000 x104001 x104002 x104003 x104004 x104005 x104006 x104007 x104008 x104009 x104010 x104011 x104012 x104013).bind fun t113 => (if ((t112.toList == t113.toList) == (x103000 == x104000 && (x103001 == x104001 && (x103002 == x104002 && (x103003 == x104003 && (x103004 == x104004 && (x103005 == x104005 && ((x103006 == x104006 && (x103007 == x104007 && (x103008 == x104008 && (x103009 == x104009 && (x103010 == x104010 && (x103011.toList == x104011.toList && (x103012.toList == x104012.toList && (x103013.toList == x104013.toList)))))))))))))))) = true then ((wire_Rsp.f x105000 x105001 x105002 x105003 x105004 x105005 x105006 x105007 x105008 x105009 x105010).bind fun t114 => ((wire_Rsp.f x106000 x106001 x106002 x106003 x106004 x106005 x106006 x106007 x106008 x106009 x106010).bind fun t115 => (some ((t114.toList == t115.toList) == t111)))) else (none)))) else (none))))
end
def copyholdlaw15_WireApart.f (k : Nat) (a0_0 : Int) (a0_1 : Int) (a0_2 : Int) (a0_3 : Int) (a0_4 : Int) (a0_5 : Int) (a0_6 : Int) (a0_7 : Int) (a0_8 : Int) (a0_9 : Int) (a0_10 : Int) (a0_11 : ByteArray) (a0_12 : ByteArray) (a0_13 : ByteArray) (a0_14 : Int) (a0_15 : Int) (a0_16 : Int) (a0_17 : Int) (a0_18 : Int) (a0_19 : Int) (a0_20 : Int) (a0_21 : Int) (a0_22 : Int) (a0_23 : Int) (a0_24 : Int) (a0_25 : ByteArray) (a0_26 : ByteArray) (a0_27 : ByteArray) (a0_28 : Int) (a0_29 : Int) (a0_30 : Int) (a0_31 : Int) (a0_32 : Int) (a0_33 : Int) (a0_34 : Int) (a0_35 : Int) (a0_36 : Int) (a0_37 : ByteArray) (l0_38 : List ByteArray) (a0_39 : Int) (a0_40 : Int) (a0_41 : Int) (a0_42 : Int) (a0_43 : Int) (a0_44 : Int) (a0_45 : Int) (a0_46 : Int) (a0_47 : Int) (a0_48 : ByteArray) (l0_49 : List ByteArray) : Option (Bool) := (copyholdlaw15_shown.f).bind fun t106 => ((copyholdlaw15_short.f a0_6 a0_7 a0_8 a0_9 a0_10 a0_11 a0_12 a0_13).bind fun t107 => (if t107 = true then ((copyholdlaw15_short.f a0_20 a0_21 a0_22 a0_23 a0_24 a0_25 a0_26 a0_27).bind fun t108 => (if t108 = true then (if (wrap64 ((a0_37.size : Int) + (a0_48.size : Int))) > 4000 then (copyholdlaw15_WireApart.j0 k t106 true a0_0 a0_1 a0_2 a0_3 a0_4 a0_5 a0_6 a0_7 a0_8 a0_9 a0_10 a0_11 a0_12 a0_13 a0_14 a0_15 a0_16 a0_17 a0_18 a0_19 a0_20 a0_21 a0_22 a0_23 a0_24 a0_25 a0_26 a0_27 a0_28 a0_29 a0_30 a0_31 a0_32 a0_33 a0_34 a0_35 a0_36 a0_37 l0_38 a0_39 a0_40 a0_41 a0_42 a0_43 a0_44 a0_45 a0_46 a0_47 a0_48 l0_49) else (copyholdlaw15_WireApart.j0 k t106 (decide ((wrap64 ((l0_38.length : Int) + (l0_49.length : Int))) > 300)) a0_0 a0_1 a0_2 a0_3 a0_4 a0_5 a0_6 a0_7 a0_8 a0_9 a0_10 a0_11 a0_12 a0_13 a0_14 a0_15 a0_16 a0_17 a0_18 a0_19 a0_20 a0_21 a0_22 a0_23 a0_24 a0_25 a0_26 a0_27 a0_28 a0_29 a0_30 a0_31 a0_32 a0_33 a0_34 a0_35 a0_36 a0_37 l0_38 a0_39 a0_40 a0_41 a0_42 a0_43 a0_44 a0_45 a0_46 a0_47 a0_48 l0_49)) else (copyholdlaw15_WireApart.j0 k t106 true a0_0 a0_1 a0_2 a0_3 a0_4 a0_5 a0_6 a0_7 a0_8 a0_9 a0_10 a0_11 a0_12 a0_13 a0_14 a0_15 a0_16 a0_17 a0_18 a0_19 a0_20 a0_21 a0_22 a0_23 a0_24 a0_25 a0_26 a0_27 a0_28 a0_29 a0_30 a0_31 a0_32 a0_33 a0_34 a0_35 a0_36 a0_37 l0_38 a0_39 a0_40 a0_41 a0_42 a0_43 a0_44 a0_45 a0_46 a0_47 a0_48 l0_49))) else (copyholdlaw15_WireApart.j0 k t106 true a0_0 a0_1 a0_2 a0_3 a0_4 a0_5 a0_6 a0_7 a0_8 a0_9 a0_10 a0_11 a0_12 a0_13 a0_14 a0_15 a0_16 a0_17 a0_18 a0_19 a0_20 a0_21 a0_22 a0_23 a0_24 a0_25 a0_26 a0_27 a0_28 a0_29 a0_30 a0_31 a0_32 a0_33 a0_34 a0_35 a0_36 a0_37 l0_38 a0_39 a0_40 a0_41 a0_42 a0_43 a0_44 a0_45 a0_46 a0_47 a0_48 l0_49)))
theorem copyholdlaw15_WireApart.mono_l : ∀ k, (∀ y0 y1 y2 y3 y4 y5 y6 y7 y8 y9 y10 y11 y12 y13 y14 y15 y16 y17 y18 y19 y20 y21 y22 y23 y24 y25 y26 y27 y28 y29 y30 y31 y32 y33 y34 y35 y36 y37 y38 y39 y40 y41 y42 y43 y44 y45 y46 y47 y48 y49 y50 y51, LeO (copyholdlaw15_WireApart.j0 k y0 y1 y2 y3 y4 y5 y6 y7 y8 y9 y10 y11 y12 y13 y14 y15 y16 y17 y18 y19 y20 y21 y22 y23 y24 y25 y26 y27 y28 y29 y30 y31 y32 y33 y34 y35 y36 y37 y38 y39 y40 y41 y42 y43 y44 y45 y46 y47 y48 y49 y50 y51) (copyholdlaw15_WireApart.j0 (k + 1) y0 y1 y2 y3 y4 y5 y6 y7 y8 y9 y10 y11 y12 y13 y14 y15 y16 y17 y18 y19 y20 y21 y22 y23 y24 y25 y26 y27 y28 y29 y30 y31 y32 y33 y34 y35 y36 y37 y38 y39 y40 y41 y42 y43 y44 y45 y46 y47 y48 y49 y50 y51)) ∧ (∀ y0 y1 y2 y3 y4 y5 y6 y7 y8 y9 y10 y11 y12 y13 y14 y15 y16 y17 y18 y19 y20 y21 y22 y23 y24 y25 y26 y27 y28 y29 y30 y31 y32 y33 y34 y35 y36 y37 y38 y39 y40 y41 y42 y43 y44 y45 y46 y47 y48 y49 y50 y51 y52, LeO (copyholdlaw15_WireApart.l0 k y0 y1 y2 y3 y4 y5 y6 y7 y8 y9 y10 y11 y12 y13 y14 y15 y16 y17 y18 y19 y20 y21 y22 y23 y24 y25 y26 y27 y28 y29 y30 y31 y32 y33 y34 y35 y36 y37 y38 y39 y40 y41 y42 y43 y44 y45 y46 y47 y48 y49 y50 y51 y52) (copyholdlaw15_WireApart.l0 (k + 1) y0 y1 y2 y3 y4 y5 y6 y7 y8 y9 y10 y11 y12 y13 y14 y15 y16 y17 y18 y19 y20 y21 y22 y23 y24 y25 y26 y27 y28 y29 y30 y31 y32 y33 y34 y35 y36 y37 y38 y39 y40 y41 y42 y43 y44 y45 y46 y47 y48 y49 y50 y51 y52)) ∧ (∀ y0 y1 y2 y3 y4 y5 y6 y7 y8 y9 y10 y11 y12 y13 y14 y15 y16 y17 y18 y19 y20 y21 y22 y23 y24 y25 y26 y27 y28 y29 y30 y31 y32 y33 y34 y35 y36 y37 y38 y39 y40 y41 y42 y43 y44 y45 y46 y47 y48 y49 y50 y51 y52, LeO (copyholdlaw15_WireApart.l1 k y0 y1 y2 y3 y4 y5 y6 y7 y8 y9 y10 y11 y12 y13 y14 y15 y16 y17 y18 y19 y20 y21 y22 y23 y24 y25 y26 y27 y28 y29 y30 y31 y32 y33 y34 y35 y36 y37 y38 y39 y40 y41 y42 y43 y44 y45 y46 y47 y48 y49 y50 y51 y52) (copyholdlaw15_WireApart.l1 (k + 1) y0 y1 y2 y3 y4 y5 y6 y7 y8 y9 y10 y11 y12 y13 y14 y15 y16 y17 y18 y19 y20 y21 y22 y23 y24 y25 y26 y27 y28 y29 y30 y31 y32 y33 y34 y35 y36 y37 y38 y39 y40 y41 y42 y43 y44 y45 y46 y47 y48 y49 y50 y51 y52))
  | 0 => ⟨fun _ _ _ _ _ _ _ _ _ _ _ _ _ _ _ _ _ _ _ _ _ _ _ _ _ _ _ _ _ _ _ _ _ _ _ _ _ _ _ _ _ _ _ _ _ _ _ _ _ _ _ _ r h => by simp [copyholdlaw15_WireApart.j0] at h, fun _ _ _ _ _ _ _ _ _ _ _ _ _ _ _ _ _ _ _ _ _ _ _ _ _ _ _ _ _ _ _ _ _ _ _ _ _ _ _ _ _ _ _ _ _ _ _ _ _ _ _ _ _ r h => by simp [copyholdlaw15_WireApart.l0] at h, fun _ _ _ _ _ _ _ _ _ _ _ _ _ _ _ _ _ _ _ _ _ _ _ _ _ _ _ _ _ _ _ _ _ _ _ _ _ _ _ _ _ _ _ _ _ _ _ _ _ _ _ _ _ r h => by simp [copyholdlaw15_WireApart.l1] at h⟩
  | k + 1 => by
    obtain ⟨ih0, ih1, ih2⟩ := copyholdlaw15_WireApart.mono_l k
    refine ⟨?_, ?_, ?_⟩
    · intro y0 y1 y2 y3 y4 y5 y6 y7 y8 y9 y10 y11 y12 y13 y14 y15 y16 y17 y18 y19 y20 y21 y22 y23 y24 y25 y26 y27 y28 y29 y30 y31 y32 y33 y34 y35 y36 y37 y38 y39 y40 y41 y42 y43 y44 y45 y46 y47 y48 y49 y50 y51
      unfold copyholdlaw15_WireApart.j0
      repeat' first
      | (with_reducible exact ih0 _ _ _ _ _ _ _ _ _ _ _ _ _ _ _ _ _ _ _ _ _ _ _ _ _ _ _ _ _ _ _ _ _ _ _ _ _ _ _ _ _ _ _ _ _ _ _ _ _ _ _ _)
      | (with_reducible exact ih1 _ _ _ _ _ _ _ _ _ _ _ _ _ _ _ _ _ _ _ _ _ _ _ _ _ _ _ _ _ _ _ _ _ _ _ _ _ _ _ _ _ _ _ _ _ _ _ _ _ _ _ _ _)
      | (with_reducible exact ih2 _ _ _ _ _ _ _ _ _ _ _ _ _ _ _ _ _ _ _ _ _ _ _ _ _ _ _ _ _ _ _ _ _ _ _ _ _ _ _ _ _ _ _ _ _ _ _ _ _ _ _ _ _)
      | (with_reducible exact copyholdref15_Same.mono _ _ _ _ _ _ _ _ _ _ _ _ _ _ _ _ _ _ _ _ _ _ _)
      | (with_reducible exact LeO.refl _)
      | (with_reducible exact LeO.none _)
      | (with_reducible refine LeO.ite ?_ ?_)
      | (with_reducible refine LeO.bind ?_ (fun _ => ?_))
      | exact ih0 _ _ _ _ _ _ _ _ _ _ _ _ _ _ _ _ _ _ _ _ _ _ _ _ _ _ _ _ _ _ _ _ _ _ _ _ _ _ _ _ _ _ _ _ _ _ _ _ _ _ _ _
      | exact ih1 _ _ _ _ _ _ _ _ _ _ _ _ _ _ _ _ _ _ _ _ _ _ _ _ _ _ _ _ _ _ _ _ _ _ _ _ _ _ _ _ _ _ _ _ _ _ _ _ _ _ _ _ _
      | exact ih2 _ _ _ _ _ _ _ _ _ _ _ _ _ _ _ _ _ _ _ _ _ _ _ _ _ _ _ _ _ _ _ _ _ _ _ _ _ _ _ _ _ _ _ _ _ _ _ _ _ _ _ _ _
      | exact copyholdref15_Same.mono _ _ _ _ _ _ _ _ _ _ _ _ _ _ _ _ _ _ _ _ _ _ _
      | exact LeO.none _
      | refine LeO.ite ?_ ?_
      | refine LeO.bind ?_ (fun _ => ?_)
    · intro y0 y1 y2 y3 y4 y5 y6 y7 y8 y9 y10 y11 y12 y13 y14 y15 y16 y17 y18 y19 y20 y21 y22 y23 y24 y25 y26 y27 y28 y29 y30 y31 y32 y33 y34 y35 y36 y37 y38 y39 y40 y41 y42 y43 y44 y45 y46 y47 y48 y49 y50 y51 y52
      unfold copyholdlaw15_WireApart.l0
      repeat' first
      | (with_reducible exact ih0 _ _ _ _ _ _ _ _ _ _ _ _ _ _ _ _ _ _ _ _ _ _ _ _ _ _ _ _ _ _ _ _ _ _ _ _ _ _ _ _ _ _ _ _ _ _ _ _ _ _ _ _)
      | (with_reducible exact ih1 _ _ _ _ _ _ _ _ _ _ _ _ _ _ _ _ _ _ _ _ _ _ _ _ _ _ _ _ _ _ _ _ _ _ _ _ _ _ _ _ _ _ _ _ _ _ _ _ _ _ _ _ _)
      | (with_reducible exact ih2 _ _ _ _ _ _ _ _ _ _ _ _ _ _ _ _ _ _ _ _ _ _ _ _ _ _ _ _ _ _ _ _ _ _ _ _ _ _ _ _ _ _ _ _ _ _ _ _ _ _ _ _ _)
      | (with_reducible exact copyholdref15_Same.mono _ _ _ _ _ _ _ _ _ _ _ _ _ _ _ _ _ _ _ _ _ _ _)
      | (with_reducible exact LeO.refl _)
      | (with_reducible exact LeO.none _)
      | (with_reducible refine LeO.ite ?_ ?_)
      | (with_reducible refine LeO.bind ?_ (fun _ => ?_))
      | exact ih0 _ _ _ _ _ _ _ _ _ _ _ _ _ _ _ _ _ _ _ _ _ _ _ _ _ _ _ _ _ _ _ _ _ _ _ _ _ _ _ _ _ _ _ _ _ _ _ _ _ _ _ _
      | exact ih1 _ _ _ _ _ _ _ _ _ _ _ _ _ _ _ _ _ _ _ _ _ _ _ _ _ _ _ _ _ _ _ _ _ _ _ _ _ _ _ _ _ _ _ _ _ _ _ _ _ _ _ _ _
      | exact ih2 _ _ _ _ _ _ _ _ _ _ _ _ _ _ _ _ _ _ _ _ _ _ _ _ _ _ _ _ _ _ _ _ _ _ _ _ _ _ _ _ _ _ _ _ _ _ _ _ _ _ _ _ _
      | exact copyholdref15_Same.mono _ _ _ _ _ _ _ _ _ _ _ _ _ _ _ _ _ _ _ _ _ _ _
      | exact LeO.none _
      | refine LeO.ite ?_ ?_
      | refine LeO.bind ?_ (fun _ => ?_)
    · intro y0 y1 y2 y3 y4 y5 y6 y7 y8 y9 y10 y11 y12 y13 y14 y15 y16 y17 y18 y19 y20 y21 y22 y23 y24 y25 y26 y27 y28 y29 y30 y31 y32 y33 y34 y35 y36 y37 y38 y39 y40 y41 y42 y43 y44 y45 y46 y47 y48 y49 y50 y51 y52
      unfold copyholdlaw15_WireApart.l1
      repeat' first
      | (with_reducible exact ih0 _ _ _ _ _ _ _ _ _ _ _ _ _ _ _ _ _ _ _ _ _ _ _ _ _ _ _ _ _ _ _ _ _ _ _ _ _ _ _ _ _ _ _ _ _ _ _ _ _ _ _ _)
      | (with_reducible exact ih1 _ _ _ _ _ _ _ _ _ _ _ _ _ _ _ _ _ _ _ _ _ _ _ _ _ _ _ _ _ _ _ _ _ _ _ _ _ _ _ _ _ _ _ _ _ _ _ _ _ _ _ _ _)
      | (with_reducible exact ih2 _ _ _ _ _ _ _ _ _ _ _ _ _ _ _ _ _ _ _ _ _ _ _ _ _ _ _ _ _ _ _ _ _ _ _ _ _ _ _ _ _ _ _ _ _ _ _ _ _ _ _ _ _)
      | (with_reducible exact copyholdref15_Same.mono _ _ _ _ _ _ _ _ _ _ _ _ _ _ _ _ _ _ _ _ _ _ _)
      | (with_reducible exact LeO.refl _)
      | (with_reducible exact LeO.none _)
      | (with_reducible refine LeO.ite ?_ ?_)
      | (with_reducible refine LeO.bind ?_ (fun _ => ?_))
      | exact ih0 _ _ _ _ _ _ _ _ _ _ _ _ _ _ _ _ _ _ _ _ _ _ _ _ _ _ _ _ _ _ _ _ _ _ _ _ _ _ _ _ _ _ _ _ _ _ _ _ _ _ _ _
      | exact ih1 _ _ _ _ _ _ _ _ _ _ _ _ _ _ _ _ _ _ _ _ _ _ _ _ _ _ _ _ _ _ _ _ _ _ _ _ _ _ _ _ _ _ _ _ _ _ _ _ _ _ _ _ _
      | exact ih2 _ _ _ _ _ _ _ _ _ _ _ _ _ _ _ _ _ _ _ _ _ _ _ _ _ _ _ _ _ _ _ _ _ _ _ _ _ _ _ _ _ _ _ _ _ _ _ _ _ _ _ _ _
      | exact copyholdref15_Same.mono _ _ _ _ _ _ _ _ _ _ _ _ _ _ _ _ _ _ _ _ _ _ _
      | exact LeO.none _
      | refine LeO.ite ?_ ?_
      | refine LeO.bind ?_ (fun _ => ?_)
theorem copyholdlaw15_WireApart.mono : ∀ a0 a1 a2 a3 a4 a5 a6 a7 a8 a9 a10 a11 a12 a13 a14 a15 a16 a17 a18 a19 a20 a21 a22 a23 a24 a25 a26 a27 a28 a29 a30 a31 a32 a33 a34 a35 a36 a37 a38 a39 a40 a41 a42 a43 a44 a45 a46 a47 a48 a49 k, LeO (copyholdlaw15_WireApart.f k a0 a1 a2 a3 a4 a5 a6 a7 a8 a9 a10 a11 a12 a13 a14 a15 a16 a17 a18 a19 a20 a21 a22 a23 a24 a25 a26 a27 a28 a29 a30 a31 a32 a33 a34 a35 a36 a37 a38 a39 a40 a41 a42 a43 a44 a45 a46 a47 a48 a49) (copyholdlaw15_WireApart.f (k + 1) a0 a1 a2 a3 a4 a5 a6 a7 a8 a9 a10 a11 a12 a13 a14 a15 a16 a17 a18 a19 a20 a21 a22 a23 a24 a25 a26 a27 a28 a29 a30 a31 a32 a33 a34 a35 a36 a37 a38 a39 a40 a41 a42 a43 a44 a45 a46 a47 a48 a49) := by
  intro a0 a1 a2 a3 a4 a5 a6 a7 a8 a9 a10 a11 a12 a13 a14 a15 a16 a17 a18 a19 a20 a21 a22 a23 a24 a25 a26 a27 a28 a29 a30 a31 a32 a33 a34 a35 a36 a37 a38 a39 a40 a41 a42 a43 a44 a45 a46 a47 a48 a49 k
  obtain ⟨ih0, ih1, ih2⟩ := copyholdlaw15_WireApart.mono_l k
  unfold copyholdlaw15_WireApart.f
  repeat' first
      | (with_reducible exact ih0 _ _ _ _ _ _ _ _ _ _ _ _ _ _ _ _ _ _ _ _ _ _ _ _ _ _ _ _ _ _ _ _ _ _ _ _ _ _ _ _ _ _ _ _ _ _ _ _ _ _ _ _)
      | (with_reducible exact ih1 _ _ _ _ _ _ _ _ _ _ _ _ _ _ _ _ _ _ _ _ _ _ _ _ _ _ _ _ _ _ _ _ _ _ _ _ _ _ _ _ _ _ _ _ _ _ _ _ _ _ _ _ _)
      | (with_reducible exact ih2 _ _ _ _ _ _ _ _ _ _ _ _ _ _ _ _ _ _ _ _ _ _ _ _ _ _ _ _ _ _ _ _ _ _ _ _ _ _ _ _ _ _ _ _ _ _ _ _ _ _ _ _ _)
      | (with_reducible exact copyholdref15_Same.mono _ _ _ _ _ _ _ _ _ _ _ _ _ _ _ _ _ _ _ _ _ _ _)
      | (with_reducible exact LeO.refl _)
      | (with_reducible exact LeO.none _)
      | (with_reducible refine LeO.ite ?_ ?_)
      | (with_reducible refine LeO.bind ?_ (fun _ => ?_))
      | exact ih0 _ _ _ _ _ _ _ _ _ _ _ _ _ _ _ _ _ _ _ _ _ _ _ _ _ _ _ _ _ _ _ _ _ _ _ _ _ _ _ _ _ _ _ _ _ _ _ _ _ _ _ _
      | exact ih1 _ _ _ _ _ _ _ _ _ _ _ _ _ _ _ _ _ _ _ _ _ _ _ _ _ _ _ _ _ _ _ _ _ _ _ _ _ _ _ _ _ _ _ _ _ _ _ _ _ _ _ _ _
      | exact ih2 _ _ _ _ _ _ _ _ _ _ _ _ _ _ _ _ _ _ _ _ _ _ _ _ _ _ _ _ _ _ _ _ _ _ _ _ _ _ _ _ _ _ _ _ _ _ _ _ _ _ _ _ _
      | exact copyholdref15_Same.mono _ _ _ _ _ _ _ _ _ _ _ _ _ _ _ _ _ _ _ _ _ _ _
      | exact LeO.none _
      | refine LeO.ite ?_ ?_
      | refine LeO.bind ?_ (fun _ => ?_)
def copyholdlaw15_WireApart.T20 : Bool × List (List Nat × List Nat) := (true, [([], []), ([0], [0]), ([1], [1]), ([2, 1, 1], [1, 2]), ([1], [1]), ([4, 3, 1], [1, 4]), ([3, 5, 1], [1, 3, 5]), ([1], [1]), ([1], [1]), ([7, 8, 1], [1, 7, 8]), ([6, 9, 1], [1, 6, 9]), ([1, 10], [1, 10]), ([11, 5], [11]), ([12], [12]), ([13, 12, 12], [12, 13]), ([12], [12]), ([15, 14, 12], [12, 15]), ([14, 16, 12], [12, 14, 16]), ([12], [12]), ([17, 18, 12], [12, 17, 18]), ([12, 19], [12, 19]), ([20, 16, 0, 1, 2, 3, 4, 5, 6, 7, 8, 9, 10, 11, 12, 13, 14, 15, 16, 17, 18, 19, 20], [20])])
def copyholdlaw15_WireApart.B20 : List Nat := [0, 1, 3, 7, 3, 31, 63, 3, 3, 387, 1023, 2047, 4095, 8191, 16383, 8191, 65535, 131071, 8191, 524287, 1048575, 2097151]
theorem copyholdlaw15_WireApart.tab20 : rtab .any (opsOf Try.f4 20) = copyholdlaw15_WireApart.T20 := by kernel_rfl
theorem copyholdlaw15_WireApart.bits20 : waitsOk copyholdlaw15_WireApart.T20.2 copyholdlaw15_WireApart.B20 = true := by kernel_rfl
set_option maxHeartbeats 8000000 in
set_option maxRecDepth 100000 in
theorem copyholdlaw15_WireApart.calls (k : Nat) (a0_0 : Int) (a0_1 : Int) (a0_2 : Int) (a0_3 : Int) (a0_4 : Int) (a0_5 : Int) (a0_6 : Int) (a0_7 : Int) (a0_8 : Int) (a0_9 : Int) (a0_10 : Int) (a0_11 : ByteArray) (a0_12 : ByteArray) (a0_13 : ByteArray) (a0_14 : Int) (a0_15 : Int) (a0_16 : Int) (a0_17 : Int) (a0_18 : Int) (a0_19 : Int) (a0_20 : Int) (a0_21 : Int) (a0_22 : Int) (a0_23 : Int) (a0_24 : Int) (a0_25 : ByteArray) (a0_26 : ByteArray) (a0_27 : ByteArray) (a0_28 : Int) (a0_29 : Int) (a0_30 : Int) (a0_31 : Int) (a0_32 : Int) (a0_33 : Int) (a0_34 : Int) (a0_35 : Int) (a0_36 : Int) (a0_37 : ByteArray) (A0_38 : Option Addr) (c0_38 : Nat) (l0_38 : List ByteArray) (a0_39 : Int) (a0_40 : Int) (a0_41 : Int) (a0_42 : Int) (a0_43 : Int) (a0_44 : Int) (a0_45 : Int) (a0_46 : Int) (a0_47 : Int) (a0_48 : ByteArray) (A0_49 : Option Addr) (c0_49 : Nat) (l0_49 : List ByteArray) (r : Bool) (w : World) (hr0_38 : Kd.C Kd.string w A0_38 l0_38.length l0_38) (hc0_38 : l0_38.length ≤ c0_38) (hr0_49 : Kd.C Kd.string w A0_49 l0_49.length l0_49) (hc0_49 : l0_49.length ≤ c0_49) (h : copyholdlaw15_WireApart.f k a0_0 a0_1 a0_2 a0_3 a0_4 a0_5 a0_6 a0_7 a0_8 a0_9 a0_10 a0_11 a0_12 a0_13 a0_14 a0_15 a0_16 a0_17 a0_18 a0_19 a0_20 a0_21 a0_22 a0_23 a0_24 a0_25 a0_26 a0_27 a0_28 a0_29 a0_30 a0_31 a0_32 a0_33 a0_34 a0_35 a0_36 a0_37 l0_38 a0_39 a0_40 a0_41 a0_42 a0_43 a0_44 a0_45 a0_46 a0_47 a0_48 l0_49 = some r) :
    Calls Try.prog 4 #[.agg pxA1_] w fun e w' => e = .returned (.bool r) ∧ Below w.heap.size w w' := by
  have hu39 := Try.underlying39
  have hu32 := Try.underlying32
  have hu37 := Try.underlying37
  have hu23 := Try.underlying23
  have HR0_38 := Aside0.mk hr0_38
  have HC0_38 := Aside0.mk hc0_38
  clear hr0_38 hc0_38
  have HR0_49 := Aside0.mk hr0_49
  have HC0_49 := Aside0.mk hc0_49
  clear hr0_49 hc0_49
  have HB := Aside0.mk (Below.refl w.heap.size w)
  have H : ((copyholdlaw15_shown.f).bind fun t106 => ((copyholdlaw15_short.f a0_6 a0_7 a0_8 a0_9 a0_10 a0_11 a0_12 a0_13).bind fun t107 => (if t107 = true then ((copyholdlaw15_short.f a0_20 a0_21 a0_22 a0_23 a0_24 a0_25 a0_26 a0_27).bind fun t108 => (if t108 = true then (if (wrap64 ((a0_37.size : Int) + (a0_48.size : Int))) > 4000 then (copyholdlaw15_WireApart.j0 k t106 true a0_0 a0_1 a0_2 a0_3 a0_4 a0_5 a0_6 a0_7 a0_8 a0_9 a0_10 a0_11 a0_12 a0_13 a0_14 a0_15 a0_16 a0_17 a0_18 a0_19 a0_20 a0_21 a0_22 a0_23 a0_24 a0_25 a0_26 a0_27 a0_28 a0_29 a0_30 a0_31 a0_32 a0_33 a0_34 a0_35 a0_36 a0_37 l0_38 a0_39 a0_40 a0_41 a0_42 a0_43 a0_44 a0_45 a0_46 a0_47 a0_48 l0_49) else (copyholdlaw15_WireApart.j0 k t106 (decide ((wrap64 ((l0_38.length : Int) + (l0_49.length : Int))) > 300)) a0_0 a0_1 a0_2 a0_3 a0_4 a0_5 a0_6 a0_7 a0_8 a0_9 a0_10 a0_11 a0_12 a0_13 a0_14 a0_15 a0_16 a0_17 a0_18 a0_19 a0_20 a0_21 a0_22 a0_23 a0_24 a0_25 a0_26 a0_27 a0_28 a0_29 a0_30 a0_31 a0_32 a0_33 a0_34 a0_35 a0_36 a0_37 l0_38 a0_39 a0_40 a0_41 a0_42 a0_43 a0_44 a0_45 a0_46 a0_47 a0_48 l0_49)) else (copyholdlaw15_WireApart.j0 k t106 true a0_0 a0_1 a0_2 a0_3 a0_4 a0_5 a0_6 a0_7 a0_8 a0_9 a0_10 a0_11 a0_12 a0_13 a0_14 a0_15 a0_16 a0_17 a0_18 a0_19 a0_20 a0_21 a0_22 a0_23 a0_24 a0_25 a0_26 a0_27 a0_28 a0_29 a0_30 a0_31 a0_32 a0_33 a0_34 a0_35 a0_36 a0_37 l0_38 a0_39 a0_40 a0_41 a0_42 a0_43 a0_44 a0_45 a0_46 a0_47 a0_48 l0_49))) else (copyholdlaw15_WireApart.j0 k t106 true a0_0 a0_1 a0_2 a0_3 a0_4 a0_5 a0_6 a0_7 a0_8 a0_9 a0_10 a0_11 a0_12 a0_13 a0_14 a0_15 a0_16 a0_17 a0_18 a0_19 a0_20 a0_21 a0_22 a0_23 a0_24 a0_25 a0_26 a0_27 a0_28 a0_29 a0_30 a0_31 a0_32 a0_33 a0_34 a0_35 a0_36 a0_37 l0_38 a0_39 a0_40 a0_41 a0_42 a0_43 a0_44 a0_45 a0_46 a0_47 a0_48 l0_49)))) = some r := h
  clear h
  replace H := Option.bind_eq_some_iff.mp H
  obtain ⟨t106, A20, H⟩ := H
  replace H : ((copyholdlaw15_short.f a0_6 a0_7 a0_8 a0_9 a0_10 a0_11 a0_12 a0_13).bind fun t107 => (if t107 = true then ((copyholdlaw15_short.f a0_20 a0_21 a0_22 a0_23 a0_24 a0_25 a0_26 a0_27).bind fun t108 => (if t108 = true then (if (wrap64 ((a0_37.size : Int) + (a0_48.size : Int))) > 4000 then (copyholdlaw15_WireApart.j0 k t106 true a0_0 a0_1 a0_2 a0_3 a0_4 a0_5 a0_6 a0_7 a0_8 a0_9 a0_10 a0_11 a0_12 a0_13 a0_14 a0_15 a0_16 a0_17 a0_18 a0_19 a0_20 a0_21 a0_22 a0_23 a0_24 a0_25 a0_26 a0_27 a0_28 a0_29 a0_30 a0_31 a0_32 a0_33 a0_34 a0_35 a0_36 a0_37 l0_38 a0_39 a0_40 a0_41 a0_42 a0_43 a0_44 a0_45 a0_46 a0_47 a0_48 l0_49) else (copyholdlaw15_WireApart.j0 k t106 (decide ((wrap64 ((l0_38.length : Int) + (l0_49.length : Int))) > 300)) a0_0 a0_1 a0_2 a0_3 a0_4 a0_5 a0_6 a0_7 a0_8 a0_9 a0_10 a0_11 a0_12 a0_13 a0_14 a0_15 a0_16 a0_17 a0_18 a0_19 a0_20 a0_21 a0_22 a0_23 a0_24 a0_25 a0_26 a0_27 a0_28 a0_29 a0_30 a0_31 a0_32 a0_33 a0_34 a0_35 a0_36 a0_37 l0_38 a0_39 a0_40 a0_41 a0_42 a0_43 a0_44 a0_45 a0_46 a0_47 a0_48 l0_49)) else (copyholdlaw15_WireApart.j0 k t106 true a0_0 a0_1 a0_2 a0_3 a0_4 a0_5 a0_6 a0_7 a0_8 a0_9 a0_10 a0_11 a0_12 a0_13 a0_14 a0_15 a0_16 a0_17 a0_18 a0_19 a0_20 a0_21 a0_22 a0_23 a0_24 a0_25 a0_26 a0_27 a0_28 a0_29 a0_30 a0_31 a0_32 a0_33 a0_34 a0_35 a0_36 a0_37 l0_38 a0_39 a0_40 a0_41 a0_42 a0_43 a0_44 a0_45 a0_46 a0_47 a0_48 l0_49))) else (copyholdlaw15_WireApart.j0 k t106 true a0_0 a0_1 a0_2 a0_3 a0_4 a0_5 a0_6 a0_7 a0_8 a0_9 a0_10 a0_11 a0_12 a0_13 a0_14 a0_15 a0_16 a0_17 a0_18 a0_19 a0_20 a0_21 a0_22 a0_23 a0_24 a0_25 a0_26 a0_27 a0_28 a0_29 a0_30 a0_31 a0_32 a0_33 a0_34 a0_35 a0_36 a0_37 l0_38 a0_39 a0_40 a0_41 a0_42 a0_43 a0_44 a0_45 a0_46 a0_47 a0_48 l0_49))) = some r := H
  have A2 := Aside0.mk A20
  clear A20
  have HC3 := Aside0.mk H
  clear H
  go_enter Try.func4, Try.ntmps4
  go_upto_region 6 with (first | ((with_reducible refine gate_dst (N := 1) rfl ?_); (try (refine gate_guard (by rfl) ?_; dsimp only)); refine box_event ?hg (N := 1) ?hd (cs := pxA1_) (t := 39) ?hr ?_; (case hd => rfl); (case hg => rfl); (case hr => first | (go_simp; done) | (go_simp; rfl)); intro gb101 hg w4 hbox hb; have n0_ := Aside0.mk (below_step (by repeat (first | (with_reducible first | exact HB.out | apply below_alloc | apply pw_below_drewN | apply below_drew1) | exact HB.out)) hb); have n1_ := Aside0.mk (hbox); have n2_ := Aside0.mk ((by rw [hg]; exact (below_size (by repeat (first | (with_reducible first | exact HB.out | apply below_alloc | apply pw_below_drewN | apply below_drew1) | exact HB.out))) : w.heap.size ≤ gb101)); have n3_ := Aside0.mk ((by rw [hg]; exact (below_size (by repeat (first | (with_reducible first | exact HB.out | apply below_alloc | apply pw_below_drewN | apply below_drew1) | exact HB.out))) : w.heap.size ≤ gb101)); clear HB; have HB := n0_; have BK101 := n1_; have GW101 := n2_; have GE101 := n3_; clear n0_ n1_ n2_ n3_; clear hb hbox hg; pxh_ hcz5_0 w4 gb101 0 (.int .i64 a0_0) BK101; pxh_ hcz5_1 w4 gb101 1 (.int .i64 a0_1) BK101; pxh_ hcz5_2 w4 gb101 2 (.int .i64 a0_2) BK101; pxh_ hcz5_3 w4 gb101 3 (.int .i64 a0_3) BK101; pxh_ hcz5_4 w4 gb101 4 (.int .i64 a0_4) BK101; pxh_ hcz5_5 w4 gb101 5 (.int .i64 a0_5) BK101; pxh_ hcz5_6 w4 gb101 6 (.int .i64 a0_6) BK101; pxh_ hcz5_7 w4 gb101 7 (.int .i64 a0_7) BK101; pxh_ hcz5_8 w4 gb101 8 (.int .i64 a0_8) BK101; pxh_ hcz5_9 w4 gb101 9 (.int .i64 a0_9) BK101; pxh_ hcz5_10 w4 gb101 10 (.int .i64 a0_10) BK101; pxh_ hcz5_11 w4 gb101 11 (.string a0_11) BK101; pxh_ hcz5_12 w4 gb101 12 (.string a0_12) BK101; pxh_ hcz5_13 w4 gb101 13 (.string a0_13) BK101; pxh_ hcz5_14 w4 gb101 14 (.int .i64 a0_14) BK101; pxh_ hcz5_15 w4 gb101 15 (.int .i64 a0_15) BK101; pxh_ hcz5_16 w4 gb101 16 (.int .i64 a0_16) BK101; pxh_ hcz5_17 w4 gb101 17 (.int .i64 a0_17) BK101; pxh_ hcz5_18 w4 gb101 18 (.int .i64 a0_18) BK101; pxh_ hcz5_19 w4 gb101 19 (.int .i64 a0_19) BK101; pxh_ hcz5_20 w4 gb101 20 (.int .i64 a0_20) BK101; pxh_ hcz5_21 w4 gb101 21 (.int .i64 a0_21) BK101; pxh_ hcz5_22 w4 gb101 22 (.int .i64 a0_22) BK101; pxh_ hcz5_23 w4 gb101 23 (.int .i64 a0_23) BK101; pxh_ hcz5_24 w4 gb101 24 (.int .i64 a0_24) BK101; pxh_ hcz5_25 w4 gb101 25 (.string a0_25) BK101; pxh_ hcz5_26 w4 gb101 26 (.string a0_26) BK101; pxh_ hcz5_27 w4 gb101 27 (.string a0_27) BK101; pxh_ hcz5_28 w4 gb101 28 (.int .i64 a0_28) BK101; pxh_ hcz5_29 w4 gb101 29 (.int .i64 a0_29) BK101; pxh_ hcz5_30 w4 gb101 30 (.int .i64 a0_30) BK101; pxh_ hcz5_31 w4 gb101 31 (.int .i64 a0_31) BK101; pxh_ hcz5_32 w4 gb101 32 (.int .i64 a0_32) BK101; pxh_ hcz5_33 w4 gb101 33 (.int .i64 a0_33) BK101; pxh_ hcz5_34 w4 gb101 34 (.int .i64 a0_34) BK101; pxh_ hcz5_35 w4 gb101 35 (.int .i64 a0_35) BK101; pxh_ hcz5_36 w4 gb101 36 (.int .i64 a0_36) BK101; pxh_ hcz5_37 w4 gb101 37 (.string a0_37) BK101; pxh_ hcz5_38 w4 gb101 38 (.slice A0_38 l0_38.length c0_38) BK101; pxh_ hcz5_39 w4 gb101 39 (.int .i64 a0_39) BK101; pxh_ hcz5_40 w4 gb101 40 (.int .i64 a0_40) BK101; pxh_ hcz5_41 w4 gb101 41 (.int .i64 a0_41) BK101; pxh_ hcz5_42 w4 gb101 42 (.int .i64 a0_42) BK101; pxh_ hcz5_43 w4 gb101 43 (.int .i64 a0_43) BK101; pxh_ hcz5_44 w4 gb101 44 (.int .i64 a0_44) BK101; pxh_ hcz5_45 w4 gb101 45 (.int .i64 a0_45) BK101; pxh_ hcz5_46 w4 gb101 46 (.int .i64 a0_46) BK101; pxh_ hcz5_47 w4 gb101 47 (.int .i64 a0_47) BK101; pxh_ hcz5_48 w4 gb101 48 (.string a0_48) BK101; pxh_ hcz5_49 w4 gb101 49 (.slice A0_49 l0_49.length c0_49) BK101; pxf_ hfz5_0 BK101 0; pxf_ hfz5_1 BK101 1; pxf_ hfz5_2 BK101 2; pxf_ hfz5_3 BK101 3; pxf_ hfz5_4 BK101 4; pxf_ hfz5_5 BK101 5; pxf_ hfz5_6 BK101 6; pxf_ hfz5_7 BK101 7; pxf_ hfz5_8 BK101 8; pxf_ hfz5_9 BK101 9; pxf_ hfz5_10 BK101 10; pxf_ hfz5_11 BK101 11; pxf_ hfz5_12 BK101 12; pxf_ hfz5_13 BK101 13; pxf_ hfz5_14 BK101 14; pxf_ hfz5_15 BK101 15; pxf_ hfz5_16 BK101 16; pxf_ hfz5_17 BK101 17; pxf_ hfz5_18 BK101 18; pxf_ hfz5_19 BK101 19; pxf_ hfz5_20 BK101 20; pxf_ hfz5_21 BK101 21; pxf_ hfz5_22 BK101 22; pxf_ hfz5_23 BK101 23; pxf_ hfz5_24 BK101 24; pxf_ hfz5_25 BK101 25; pxf_ hfz5_26 BK101 26; pxf_ hfz5_27 BK101 27; pxf_ hfz5_28 BK101 28; pxf_ hfz5_29 BK101 29; pxf_ hfz5_30 BK101 30; pxf_ hfz5_31 BK101 31; pxf_ hfz5_32 BK101 32; pxf_ hfz5_33 BK101 33; pxf_ hfz5_34 BK101 34; pxf_ hfz5_35 BK101 35; pxf_ hfz5_36 BK101 36; pxf_ hfz5_37 BK101 37; pxf_ hfz5_38 BK101 38; pxf_ hfz5_39 BK101 39; pxf_ hfz5_40 BK101 40; pxf_ hfz5_41 BK101 41; pxf_ hfz5_42 BK101 42; pxf_ hfz5_43 BK101 43; pxf_ hfz5_44 BK101 44; pxf_ hfz5_45 BK101 45; pxf_ hfz5_46 BK101 46; pxf_ hfz5_47 BK101 47; pxf_ hfz5_48 BK101 48; pxf_ hfz5_49 BK101 49) | ((with_reducible refine gate_dst (N := 3) rfl ?_); (try (refine gate_guard (by rfl) ?_; dsimp only)); refine box_event ?hg (N := 3) ?hd (cs := pxA29_) (t := 32) ?hr ?_; (case hd => rfl); (case hg => rfl); (case hr => first | (go_simp; done) | (go_simp; rfl)); intro gb102 hg w6 hbox hb; have n0_ := Aside0.mk (blk_below (g := gb101) (o := .cells pxA1_ 39 (0, 0)) (by (with_reducible repeat (first | refine blk_drewN ?_ _ | refine blk_drew ?_ | refine blk_alloc ?_ _)); exact BK101.out) hb); have n1_ := Aside0.mk (below_step (by repeat (first | (with_reducible first | exact HB.out | apply below_alloc | apply pw_below_drewN | apply below_drew1 | refine below_set ?_ GE101.out) | exact HB.out)) hb); have n2_ := Aside0.mk (hbox); have n3_ := Aside0.mk ((by rw [hg]; exact (below_size (by repeat (first | (with_reducible first | exact HB.out | apply below_alloc | apply pw_below_drewN | apply below_drew1 | refine below_set ?_ GE101.out) | exact HB.out))) : w.heap.size ≤ gb102)); have n4_ := Aside0.mk ((by rw [hg]; exact (below_size (by repeat (first | (with_reducible first | exact HB.out | apply below_alloc | apply pw_below_drewN | apply below_drew1 | refine below_set ?_ GE101.out) | exact HB.out))) : w.heap.size ≤ gb102)); have n5_ := Aside0.mk ((by rw [hg]; exact Nat.ne_of_lt (blk_lt (g := gb101) (o := .cells pxA1_ 39 (0, 0)) (by (with_reducible repeat (first | refine blk_drewN ?_ _ | refine blk_drew ?_ | refine blk_alloc ?_ _)); exact BK101.out)) : gb101 ≠ gb102)); have n6_ := Aside0.mk ((by rw [hg]; exact Nat.ne_of_gt (blk_lt (g := gb101) (o := .cells pxA1_ 39 (0, 0)) (by (with_reducible repeat (first | refine blk_drewN ?_ _ | refine blk_drew ?_ | refine blk_alloc ?_ _)); exact BK101.out)) : gb102 ≠ gb101)); clear BK101; clear HB; have BK101 := n0_; have HB := n1_; have BK102 := n2_; have GW102 := n3_; have GE102 := n4_; have NB101_102 := n5_; have NB102_101 := n6_; clear n0_ n1_ n2_ n3_ n4_ n5_ n6_; clear hb hbox hg; have hnb7 := NB102_101.out; have hnc7 := NB101_102.out; pxh_ hcz8_0 w6 gb102 0 (.int .i64 0) BK102; pxh_ hcz8_1 w6 gb102 1 (.int .i64 0) BK102; pxh_ hcz8_2 w6 gb102 2 (.int .i64 0) BK102; pxh_ hcz8_3 w6 gb102 3 (.int .i64 0) BK102; pxh_ hcz8_4 w6 gb102 4 (.int .i64 0) BK102; pxh_ hcz8_5 w6 gb102 5 (.int .i64 0) BK102; pxh_ hcz8_6 w6 gb102 6 (.int .i64 0) BK102; pxh_ hcz8_7 w6 gb102 7 (.int .i64 0) BK102; pxh_ hcz8_8 w6 gb102 8 (.int .i64 0) BK102; pxh_ hcz8_9 w6 gb102 9 (.int .i64 0) BK102; pxh_ hcz8_10 w6 gb102 10 (.int .i64 0) BK102; pxh_ hcz8_11 w6 gb102 11 (.string (⟨#[]⟩ : ByteArray)) BK102; pxh_ hcz8_12 w6 gb102 12 (.string (⟨#[]⟩ : ByteArray)) BK102; pxh_ hcz8_13 w6 gb102 13 (.string (⟨#[]⟩ : ByteArray)) BK102; pxf_ hfz8_0 BK102 0; pxf_ hfz8_1 BK102 1; pxf_ hfz8_2 BK102 2; pxf_ hfz8_3 BK102 3; pxf_ hfz8_4 BK102 4; pxf_ hfz8_5 BK102 5; pxf_ hfz8_6 BK102 6; pxf_ hfz8_7 BK102 7; pxf_ hfz8_8 BK102 8; pxf_ hfz8_9 BK102 9; pxf_ hfz8_10 BK102 10; pxf_ hfz8_11 BK102 11; pxf_ hfz8_12 BK102 12; pxf_ hfz8_13 BK102 13; pxh_ hcz9_0 w6 gb101 0 (.int .i64 a0_0) BK101; pxh_ hcz9_1 w6 gb101 1 (.int .i64 a0_1) BK101; pxh_ hcz9_2 w6 gb101 2 (.int .i64 a0_2) BK101; pxh_ hcz9_3 w6 gb101 3 (.int .i64 a0_3) BK101; pxh_ hcz9_4 w6 gb101 4 (.int .i64 a0_4) BK101; pxh_ hcz9_5 w6 gb101 5 (.int .i64 a0_5) BK101; pxh_ hcz9_6 w6 gb101 6 (.int .i64 a0_6) BK101; pxh_ hcz9_7 w6 gb101 7 (.int .i64 a0_7) BK101; pxh_ hcz9_8 w6 gb101 8 (.int .i64 a0_8) BK101; pxh_ hcz9_9 w6 gb101 9 (.int .i64 a0_9) BK101; pxh_ hcz9_10 w6 gb101 10 (.int .i64 a0_10) BK101; pxh_ hcz9_11 w6 gb101 11 (.string a0_11) BK101; pxh_ hcz9_12 w6 gb101 12 (.string a0_12) BK101; pxh_ hcz9_13 w6 gb101 13 (.string a0_13) BK101; pxh_ hcz9_14 w6 gb101 14 (.int .i64 a0_14) BK101; pxh_ hcz9_15 w6 gb101 15 (.int .i64 a0_15) BK101; pxh_ hcz9_16 w6 gb101 16 (.int .i64 a0_16) BK101; pxh_ hcz9_17 w6 gb101 17 (.int .i64 a0_17) BK101; pxh_ hcz9_18 w6 gb101 18 (.int .i64 a0_18) BK101; pxh_ hcz9_19 w6 gb101 19 (.int .i64 a0_19) BK101; pxh_ hcz9_20 w6 gb101 20 (.int .i64 a0_20) BK101; pxh_ hcz9_21 w6 gb101 21 (.int .i64 a0_21) BK101; pxh_ hcz9_22 w6 gb101 22 (.int .i64 a0_22) BK101; pxh_ hcz9_23 w6 gb101 23 (.int .i64 a0_23) BK101; pxh_ hcz9_24 w6 gb101 24 (.int .i64 a0_24) BK101; pxh_ hcz9_25 w6 gb101 25 (.string a0_25) BK101; pxh_ hcz9_26 w6 gb101 26 (.string a0_26) BK101; pxh_ hcz9_27 w6 gb101 27 (.string a0_27) BK101; pxh_ hcz9_28 w6 gb101 28 (.int .i64 a0_28) BK101; pxh_ hcz9_29 w6 gb101 29 (.int .i64 a0_29) BK101; pxh_ hcz9_30 w6 gb101 30 (.int .i64 a0_30) BK101; pxh_ hcz9_31 w6 gb101 31 (.int .i64 a0_31) BK101; pxh_ hcz9_32 w6 gb101 32 (.int .i64 a0_32) BK101; pxh_ hcz9_33 w6 gb101 33 (.int .i64 a0_33) BK101; pxh_ hcz9_34 w6 gb101 34 (.int .i64 a0_34) BK101; pxh_ hcz9_35 w6 gb101 35 (.int .i64 a0_35) BK101; pxh_ hcz9_36 w6 gb101 36 (.int .i64 a0_36) BK101; pxh_ hcz9_37 w6 gb101 37 (.string a0_37) BK101; pxh_ hcz9_38 w6 gb101 38 (.slice A0_38 l0_38.length c0_38) BK101; pxh_ hcz9_39 w6 gb101 39 (.int .i64 a0_39) BK101; pxh_ hcz9_40 w6 gb101 40 (.int .i64 a0_40) BK101; pxh_ hcz9_41 w6 gb101 41 (.int .i64 a0_41) BK101; pxh_ hcz9_42 w6 gb101 42 (.int .i64 a0_42) BK101; pxh_ hcz9_43 w6 gb101 43 (.int .i64 a0_43) BK101; pxh_ hcz9_44 w6 gb101 44 (.int .i64 a0_44) BK101; pxh_ hcz9_45 w6 gb101 45 (.int .i64 a0_45) BK101; pxh_ hcz9_46 w6 gb101 46 (.int .i64 a0_46) BK101; pxh_ hcz9_47 w6 gb101 47 (.int .i64 a0_47) BK101; pxh_ hcz9_48 w6 gb101 48 (.string a0_48) BK101; pxh_ hcz9_49 w6 gb101 49 (.slice A0_49 l0_49.length c0_49) BK101; pxf_ hfz9_0 BK101 0; pxf_ hfz9_1 BK101 1; pxf_ hfz9_2 BK101 2; pxf_ hfz9_3 BK101 3; pxf_ hfz9_4 BK101 4; pxf_ hfz9_5 BK101 5; pxf_ hfz9_6 BK101 6; pxf_ hfz9_7 BK101 7; pxf_ hfz9_8 BK101 8; pxf_ hfz9_9 BK101 9; pxf_ hfz9_10 BK101 10; pxf_ hfz9_11 BK101 11; pxf_ hfz9_12 BK101 12; pxf_ hfz9_13 BK101 13; pxf_ hfz9_14 BK101 14; pxf_ hfz9_15 BK101 15; pxf_ hfz9_16 BK101 16; pxf_ hfz9_17 BK101 17; pxf_ hfz9_18 BK101 18; pxf_ hfz9_19 BK101 19; pxf_ hfz9_20 BK101 20; pxf_ hfz9_21 BK101 21; pxf_ hfz9_22 BK101 22; pxf_ hfz9_23 BK101 23; pxf_ hfz9_24 BK101 24; pxf_ hfz9_25 BK101 25; pxf_ hfz9_26 BK101 26; pxf_ hfz9_27 BK101 27; pxf_ hfz9_28 BK101 28; pxf_ hfz9_29 BK101 29; pxf_ hfz9_30 BK101 30; pxf_ hfz9_31 BK101 31; pxf_ hfz9_32 BK101 32; pxf_ hfz9_33 BK101 33; pxf_ hfz9_34 BK101 34; pxf_ hfz9_35 BK101 35; pxf_ hfz9_36 BK101 36; pxf_ hfz9_37 BK101 37; pxf_ hfz9_38 BK101 38; pxf_ hfz9_39 BK101 39; pxf_ hfz9_40 BK101 40; pxf_ hfz9_41 BK101 41; pxf_ hfz9_42 BK101 42; pxf_ hfz9_43 BK101 43; pxf_ hfz9_44 BK101 44; pxf_ hfz9_45 BK101 45; pxf_ hfz9_46 BK101 46; pxf_ hfz9_47 BK101 47; pxf_ hfz9_48 BK101 48; pxf_ hfz9_49 BK101 49) | ((with_reducible refine gate_dst (N := 4) rfl ?_); (try (refine gate_guard (by rfl) ?_; dsimp only)); refine box_event ?hg (N := 4) ?hd (cs := pxA29_) (t := 32) ?hr ?_; (case hd => rfl); (case hg => rfl); (case hr => first | (go_simp; done) | (go_simp; rfl)); intro gb103 hg w10 hbox hb; have n0_ := Aside0.mk (blk_below (g := gb101) (o := .cells pxA1_ 39 (0, 0)) (by (with_reducible repeat (first | refine blk_drewN ?_ _ | refine blk_drew ?_ | refine blk_alloc ?_ _)); refine blk_far ?_ NB101_102.out _; (with_reducible repeat (first | refine blk_drewN ?_ _ | refine blk_drew ?_ | refine blk_alloc ?_ _)); refine blk_far ?_ NB101_102.out _; (with_reducible repeat (first | refine blk_drewN ?_ _ | refine blk_drew ?_ | refine blk_alloc ?_ _)); refine blk_far ?_ NB101_102.out _; (with_reducible repeat (first | refine blk_drewN ?_ _ | refine blk_drew ?_ | refine blk_alloc ?_ _)); refine blk_far ?_ NB101_102.out _; (with_reducible repeat (first | refine blk_drewN ?_ _ | refine blk_drew ?_ | refine blk_alloc ?_ _)); refine blk_far ?_ NB101_102.out _; (with_reducible repeat (first | refine blk_drewN ?_ _ | refine blk_drew ?_ | refine blk_alloc ?_ _)); refine blk_far ?_ NB101_102.out _; (with_reducible repeat (first | refine blk_drewN ?_ _ | refine blk_drew ?_ | refine blk_alloc ?_ _)); refine blk_far ?_ NB101_102.out _; (with_reducible repeat (first | refine blk_drewN ?_ _ | refine blk_drew ?_ | refine blk_alloc ?_ _)); refine blk_far ?_ NB101_102.out _; (with_reducible repeat (first | refine blk_drewN ?_ _ | refine blk_drew ?_ | refine blk_alloc ?_ _)); refine blk_far ?_ NB101_102.out _; (with_reducible repeat (first | refine blk_drewN ?_ _ | refine blk_drew ?_ | refine blk_alloc ?_ _)); refine blk_far ?_ NB101_102.out _; (with_reducible repeat (first | refine blk_drewN ?_ _ | refine blk_drew ?_ | refine blk_alloc ?_ _)); refine blk_far ?_ NB101_102.out _; (with_reducible repeat (first | refine blk_drewN ?_ _ | refine blk_drew ?_ | refine blk_alloc ?_ _)); refine blk_far ?_ NB101_102.out _; (with_reducible repeat (first | refine blk_drewN ?_ _ | refine blk_drew ?_ | refine blk_alloc ?_ _)); refine blk_far ?_ NB101_102.out _; (with_reducible repeat (first | refine blk_drewN ?_ _ | refine blk_drew ?_ | refine blk_alloc ?_ _)); refine blk_far ?_ NB101_102.out _; (with_reducible repeat (first | refine blk_drewN ?_ _ | refine blk_drew ?_ | refine blk_alloc ?_ _)); exact BK101.out) hb); have n1_ := Aside0.mk (blk_below (g := gb102) (o := .cells pxA30_ 32 (0, 0)) (by (with_reducible repeat (first | refine blk_drewN ?_ _ | refine blk_drew ?_ | refine blk_alloc ?_ _)); refine blk_put (cs := pxA24_) ?_ 13 _ rfl; (with_reducible repeat (first | refine blk_drewN ?_ _ | refine blk_drew ?_ | refine blk_alloc ?_ _)); refine blk_put (cs := pxA14_) ?_ 12 _ rfl; (with_reducible repeat (first | refine blk_drewN ?_ _ | refine blk_drew ?_ | refine blk_alloc ?_ _)); refine blk_put (cs := pxA5_) ?_ 11 _ rfl; (with_reducible repeat (first | refine blk_drewN ?_ _ | refine blk_drew ?_ | refine blk_alloc ?_ _)); refine blk_put (cs := pxA7_) ?_ 10 _ rfl; (with_reducible repeat (first | refine blk_drewN ?_ _ | refine blk_drew ?_ | refine blk_alloc ?_ _)); refine blk_put (cs := pxA10_) ?_ 9 _ rfl; (with_reducible repeat (first | refine blk_drewN ?_ _ | refine blk_drew ?_ | refine blk_alloc ?_ _)); refine blk_put (cs := pxA11_) ?_ 8 _ rfl; (with_reducible repeat (first | refine blk_drewN ?_ _ | refine blk_drew ?_ | refine blk_alloc ?_ _)); refine blk_put (cs := pxA13_) ?_ 7 _ rfl; (with_reducible repeat (first | refine blk_drewN ?_ _ | refine blk_drew ?_ | refine blk_alloc ?_ _)); refine blk_put (cs := pxA16_) ?_ 6 _ rfl; (with_reducible repeat (first | refine blk_drewN ?_ _ | refine blk_drew ?_ | refine blk_alloc ?_ _)); refine blk_put (cs := pxA19_) ?_ 5 _ rfl; (with_reducible repeat (first | refine blk_drewN ?_ _ | refine blk_drew ?_ | refine blk_alloc ?_ _)); refine blk_put (cs := pxA20_) ?_ 4 _ rfl; (with_reducible repeat (first | refine blk_drewN ?_ _ | refine blk_drew ?_ | refine blk_alloc ?_ _)); refine blk_put (cs := pxA22_) ?_ 3 _ rfl; (with_reducible repeat (first | refine blk_drewN ?_ _ | refine blk_drew ?_ | refine blk_alloc ?_ _)); refine blk_put (cs := pxA25_) ?_ 2 _ rfl; (with_reducible repeat (first | refine blk_drewN ?_ _ | refine blk_drew ?_ | refine blk_alloc ?_ _)); refine blk_put (cs := pxA27_) ?_ 1 _ rfl; (with_reducible repeat (first | refine blk_drewN ?_ _ | refine blk_drew ?_ | refine blk_alloc ?_ _)); refine blk_put (cs := pxA29_) ?_ 0 _ rfl; (with_reducible repeat (first | refine blk_drewN ?_ _ | refine blk_drew ?_ | refine blk_alloc ?_ _)); exact BK102.out) hb); have n2_ := Aside0.mk (below_step (by repeat (first | (with_reducible first | exact HB.out | apply below_alloc | apply pw_below_drewN | apply below_drew1 | refine below_set ?_ GE101.out | refine below_set ?_ GE102.out) | exact HB.out)) hb); have n3_ := Aside0.mk (hbox); have n4_ := Aside0.mk ((by rw [hg]; exact (below_size (by repeat (first | (with_reducible first | exact HB.out | apply below_alloc | apply pw_below_drewN | apply below_drew1 | refine below_set ?_ GE101.out | refine below_set ?_ GE102.out) | exact HB.out))) : w.heap.size ≤ gb103)); have n5_ := Aside0.mk ((by rw [hg]; exact (below_size (by repeat (first | (with_reducible first | exact HB.out | apply below_alloc | apply pw_below_drewN | apply below_drew1 | refine below_set ?_ GE101.out | refine below_set ?_ GE102.out) | exact HB.out))) : w.heap.size ≤ gb103)); have n6_ := Aside0.mk ((by rw [hg]; exact Nat.ne_of_lt (blk_lt (g := gb101) (o := .cells pxA1_ 39 (0, 0)) (by (with_reducible repeat (first | refine blk_drewN ?_ _ | refine blk_drew ?_ | refine blk_alloc ?_ _)); refine blk_far ?_ NB101_102.out _; (with_reducible repeat (first | refine blk_drewN ?_ _ | refine blk_drew ?_ | refine blk_alloc ?_ _)); refine blk_far ?_ NB101_102.out _; (with_reducible repeat (first | refine blk_drewN ?_ _ | refine blk_drew ?_ | refine blk_alloc ?_ _)); refine blk_far ?_ NB101_102.out _; (with_reducible repeat (first | refine blk_drewN ?_ _ | refine blk_drew ?_ | refine blk_alloc ?_ _)); refine blk_far ?_ NB101_102.out _; (with_reducible repeat (first | refine blk_drewN ?_ _ | refine blk_drew ?_ | refine blk_alloc ?_ _)); refine blk_far ?_ NB101_102.out _; (with_reducible repeat (first | refine blk_drewN ?_ _ | refine blk_drew ?_ | refine blk_alloc ?_ _)); refine blk_far ?_ NB101_102.out _; (with_reducible repeat (first | refine blk_drewN ?_ _ | refine blk_drew ?_ | refine blk_alloc ?_ _)); refine blk_far ?_ NB101_102.out _; (with_reducible repeat (first | refine blk_drewN ?_ _ | refine blk_drew ?_ | refine blk_alloc ?_ _)); refine blk_far ?_ NB101_102.out _; (with_reducible repeat (first | refine blk_drewN ?_ _ | refine blk_drew ?_ | refine blk_alloc ?_ _)); refine blk_far ?_ NB101_102.out _; (with_reducible repeat (first | refine blk_drewN ?_ _ | refine blk_drew ?_ | refine blk_alloc ?_ _)); refine blk_far ?_ NB101_102.out _; (with_reducible repeat (first | refine blk_drewN ?_ _ | refine blk_drew ?_ | refine blk_alloc ?_ _)); refine blk_far ?_ NB101_102.out _; (with_reducible repeat (first | refine blk_drewN ?_ _ | refine blk_drew ?_ | refine blk_alloc ?_ _)); refine blk_far ?_ NB101_102.out _; (with_reducible repeat (first | refine blk_drewN ?_ _ | refine blk_drew ?_ | refine blk_alloc ?_ _)); refine blk_far ?_ NB101_102.out _; (with_reducible repeat (first | refine blk_drewN ?_ _ | refine blk_drew ?_ | refine blk_alloc ?_ _)); refine blk_far ?_ NB101_102.out _; (with_reducible repeat (first | refine blk_drewN ?_ _ | refine blk_drew ?_ | refine blk_alloc ?_ _)); exact BK101.out)) : gb101 ≠ gb103)); have n7_ := Aside0.mk ((by rw [hg]; exact Nat.ne_of_gt (blk_lt (g := gb101) (o := .cells pxA1_ 39 (0, 0)) (by (with_reducible repeat (first | refine blk_drewN ?_ _ | refine blk_drew ?_ | refine blk_alloc ?_ _)); refine blk_far ?_ NB101_102.out _; (with_reducible repeat (first | refine blk_drewN ?_ _ | refine blk_drew ?_ | refine blk_alloc ?_ _)); refine blk_far ?_ NB101_102.out _; (with_reducible repeat (first | refine blk_drewN ?_ _ | refine blk_drew ?_ | refine blk_alloc ?_ _)); refine blk_far ?_ NB101_102.out _; (with_reducible repeat (first | refine blk_drewN ?_ _ | refine blk_drew ?_ | refine blk_alloc ?_ _)); refine blk_far ?_ NB101_102.out _; (with_reducible repeat (first | refine blk_drewN ?_ _ | refine blk_drew ?_ | refine blk_alloc ?_ _)); refine blk_far ?_ NB101_102.out _; (with_reducible repeat (first | refine blk_drewN ?_ _ | refine blk_drew ?_ | refine blk_alloc ?_ _)); refine blk_far ?_ NB101_102.out _; (with_reducible repeat (first | refine blk_drewN ?_ _ | refine blk_drew ?_ | refine blk_alloc ?_ _)); refine blk_far ?_ NB101_102.out _; (with_reducible repeat (first | refine blk_drewN ?_ _ | refine blk_drew ?_ | refine blk_alloc ?_ _)); refine blk_far ?_ NB101_102.out _; (with_reducible repeat (first | refine blk_drewN ?_ _ | refine blk_drew ?_ | refine blk_alloc ?_ _)); refine blk_far ?_ NB101_102.out _; (with_reducible repeat (first | refine blk_drewN ?_ _ | refine blk_drew ?_ | refine blk_alloc ?_ _)); refine blk_far ?_ NB101_102.out _; (with_reducible repeat (first | refine blk_drewN ?_ _ | refine blk_drew ?_ | refine blk_alloc ?_ _)); refine blk_far ?_ NB101_102.out _; (with_reducible repeat (first | refine blk_drewN ?_ _ | refine blk_drew ?_ | refine blk_alloc ?_ _)); refine blk_far ?_ NB101_102.out _; (with_reducible repeat (first | refine blk_drewN ?_ _ | refine blk_drew ?_ | refine blk_alloc ?_ _)); refine blk_far ?_ NB101_102.out _; (with_reducible repeat (first | refine blk_drewN ?_ _ | refine blk_drew ?_ | refine blk_alloc ?_ _)); refine blk_far ?_ NB101_102.out _; (with_reducible repeat (first | refine blk_drewN ?_ _ | refine blk_drew ?_ | refine blk_alloc ?_ _)); exact BK101.out)) : gb103 ≠ gb101)); have n8_ := Aside0.mk ((by rw [hg]; exact Nat.ne_of_lt (blk_lt (g := gb102) (o := .cells pxA30_ 32 (0, 0)) (by (with_reducible repeat (first | refine blk_drewN ?_ _ | refine blk_drew ?_ | refine blk_alloc ?_ _)); refine blk_put (cs := pxA24_) ?_ 13 _ rfl; (with_reducible repeat (first | refine blk_drewN ?_ _ | refine blk_drew ?_ | refine blk_alloc ?_ _)); refine blk_put (cs := pxA14_) ?_ 12 _ rfl; (with_reducible repeat (first | refine blk_drewN ?_ _ | refine blk_drew ?_ | refine blk_alloc ?_ _)); refine blk_put (cs := pxA5_) ?_ 11 _ rfl; (with_reducible repeat (first | refine blk_drewN ?_ _ | refine blk_drew ?_ | refine blk_alloc ?_ _)); refine blk_put (cs := pxA7_) ?_ 10 _ rfl; (with_reducible repeat (first | refine blk_drewN ?_ _ | refine blk_drew ?_ | refine blk_alloc ?_ _)); refine blk_put (cs := pxA10_) ?_ 9 _ rfl; (with_reducible repeat (first | refine blk_drewN ?_ _ | refine blk_drew ?_ | refine blk_alloc ?_ _)); refine blk_put (cs := pxA11_) ?_ 8 _ rfl; (with_reducible repeat (first | refine blk_drewN ?_ _ | refine blk_drew ?_ | refine blk_alloc ?_ _)); refine blk_put (cs := pxA13_) ?_ 7 _ rfl; (with_reducible repeat (first | refine blk_drewN ?_ _ | refine blk_drew ?_ | refine blk_alloc ?_ _)); refine blk_put (cs := pxA16_) ?_ 6 _ rfl; (with_reducible repeat (first | refine blk_drewN ?_ _ | refine blk_drew ?_ | refine blk_alloc ?_ _)); refine blk_put (cs := pxA19_) ?_ 5 _ rfl; (with_reducible repeat (first | refine blk_drewN ?_ _ | refine blk_drew ?_ | refine blk_alloc ?_ _)); refine blk_put (cs := pxA20_) ?_ 4 _ rfl; (with_reducible repeat (first | refine blk_drewN ?_ _ | refine blk_drew ?_ | refine blk_alloc ?_ _)); refine blk_put (cs := pxA22_) ?_ 3 _ rfl; (with_reducible repeat (first | refine blk_drewN ?_ _ | refine blk_drew ?_ | refine blk_alloc ?_ _)); refine blk_put (cs := pxA25_) ?_ 2 _ rfl; (with_reducible repeat (first | refine blk_drewN ?_ _ | refine blk_drew ?_ | refine blk_alloc ?_ _)); refine blk_put (cs := pxA27_) ?_ 1 _ rfl; (with_reducible repeat (first | refine blk_drewN ?_ _ | refine blk_drew ?_ | refine blk_alloc ?_ _)); refine blk_put (cs := pxA29_) ?_ 0 _ rfl; (with_reducible repeat (first | refine blk_drewN ?_ _ | refine blk_drew ?_ | refine blk_alloc ?_ _)); exact BK102.out)) : gb102 ≠ gb103)); have n9_ := Aside0.mk ((by rw [hg]; exact Nat.ne_of_gt (blk_lt (g := gb102) (o := .cells pxA30_ 32 (0, 0)) (by (with_reducible repeat (first | refine blk_drewN ?_ _ | refine blk_drew ?_ | refine blk_alloc ?_ _)); refine blk_put (cs := pxA24_) ?_ 13 _ rfl; (with_reducible repeat (first | refine blk_drewN ?_ _ | refine blk_drew ?_ | refine blk_alloc ?_ _)); refine blk_put (cs := pxA14_) ?_ 12 _ rfl; (with_reducible repeat (first | refine blk_drewN ?_ _ | refine blk_drew ?_ | refine blk_alloc ?_ _)); refine blk_put (cs := pxA5_) ?_ 11 _ rfl; (with_reducible repeat (first | refine blk_drewN ?_ _ | refine blk_drew ?_ | refine blk_alloc ?_ _)); refine blk_put (cs := pxA7_) ?_ 10 _ rfl; (with_reducible repeat (first | refine blk_drewN ?_ _ | refine blk_drew ?_ | refine blk_alloc ?_ _)); refine blk_put (cs := pxA10_) ?_ 9 _ rfl; (with_reducible repeat (first | refine blk_drewN ?_ _ | refine blk_drew ?_ | refine blk_alloc ?_ _)); refine blk_put (cs := pxA11_) ?_ 8 _ rfl; (with_reducible repeat (first | refine blk_drewN ?_ _ | refine blk_drew ?_ | refine blk_alloc ?_ _)); refine blk_put (cs := pxA13_) ?_ 7 _ rfl; (with_reducible repeat (first | refine blk_drewN ?_ _ | refine blk_drew ?_ | refine blk_alloc ?_ _)); refine blk_put (cs := pxA16_) ?_ 6 _ rfl; (with_reducible repeat (first | refine blk_drewN ?_ _ | refine blk_drew ?_ | refine blk_alloc ?_ _)); refine blk_put (cs := pxA19_) ?_ 5 _ rfl; (with_reducible repeat (first | refine blk_drewN ?_ _ | refine blk_drew ?_ | refine blk_alloc ?_ _)); refine blk_put (cs := pxA20_) ?_ 4 _ rfl; (with_reducible repeat (first | refine blk_drewN ?_ _ | refine blk_drew ?_ | refine blk_alloc ?_ _)); refine blk_put (cs := pxA22_) ?_ 3 _ rfl; (with_reducible repeat (first | refine blk_drewN ?_ _ | refine blk_drew ?_ | refine blk_alloc ?_ _)); refine blk_put (cs := pxA25_) ?_ 2 _ rfl; (with_reducible repeat (first | refine blk_drewN ?_ _ | refine blk_drew ?_ | refine blk_alloc ?_ _)); refine blk_put (cs := pxA27_) ?_ 1 _ rfl; (with_reducible repeat (first | refine blk_drewN ?_ _ | refine blk_drew ?_ | refine blk_alloc ?_ _)); refine blk_put (cs := pxA29_) ?_ 0 _ rfl; (with_reducible repeat (first | refine blk_drewN ?_ _ | refine blk_drew ?_ | refine blk_alloc ?_ _)); exact BK102.out)) : gb103 ≠ gb102)); clear BK101; clear BK102; clear HB; have BK101 := n0_; have BK102 := n1_; have HB := n2_; have BK103 := n3_; have GW103 := n4_; have GE103 := n5_; have NB101_103 := n6_; have NB103_101 := n7_; have NB102_103 := n8_; have NB103_102 := n9_; clear n0_ n1_ n2_ n3_ n4_ n5_ n6_ n7_ n8_ n9_; clear hb hbox hg; have hnb11 := NB103_101.out; have hnc11 := NB101_103.out; have hnb12 := NB103_102.out; have hnc12 := NB102_103.out; pxh_ hcz13_0 w10 gb103 0 (.int .i64 0) BK103; pxh_ hcz13_1 w10 gb103 1 (.int .i64 0) BK103; pxh_ hcz13_2 w10 gb103 2 (.int .i64 0) BK103; pxh_ hcz13_3 w10 gb103 3 (.int .i64 0) BK103; pxh_ hcz13_4 w10 gb103 4 (.int .i64 0) BK103; pxh_ hcz13_5 w10 gb103 5 (.int .i64 0) BK103; pxh_ hcz13_6 w10 gb103 6 (.int .i64 0) BK103; pxh_ hcz13_7 w10 gb103 7 (.int .i64 0) BK103; pxh_ hcz13_8 w10 gb103 8 (.int .i64 0) BK103; pxh_ hcz13_9 w10 gb103 9 (.int .i64 0) BK103; pxh_ hcz13_10 w10 gb103 10 (.int .i64 0) BK103; pxh_ hcz13_11 w10 gb103 11 (.string (⟨#[]⟩ : ByteArray)) BK103; pxh_ hcz13_12 w10 gb103 12 (.string (⟨#[]⟩ : ByteArray)) BK103; pxh_ hcz13_13 w10 gb103 13 (.string (⟨#[]⟩ : ByteArray)) BK103; pxf_ hfz13_0 BK103 0; pxf_ hfz13_1 BK103 1; pxf_ hfz13_2 BK103 2; pxf_ hfz13_3 BK103 3; pxf_ hfz13_4 BK103 4; pxf_ hfz13_5 BK103 5; pxf_ hfz13_6 BK103 6; pxf_ hfz13_7 BK103 7; pxf_ hfz13_8 BK103 8; pxf_ hfz13_9 BK103 9; pxf_ hfz13_10 BK103 10; pxf_ hfz13_11 BK103 11; pxf_ hfz13_12 BK103 12; pxf_ hfz13_13 BK103 13; pxh_ hcz14_0 w10 gb101 0 (.int .i64 a0_0) BK101; pxh_ hcz14_1 w10 gb101 1 (.int .i64 a0_1) BK101; pxh_ hcz14_2 w10 gb101 2 (.int .i64 a0_2) BK101; pxh_ hcz14_3 w10 gb101 3 (.int .i64 a0_3) BK101; pxh_ hcz14_4 w10 gb101 4 (.int .i64 a0_4) BK101; pxh_ hcz14_5 w10 gb101 5 (.int .i64 a0_5) BK101; pxh_ hcz14_6 w10 gb101 6 (.int .i64 a0_6) BK101; pxh_ hcz14_7 w10 gb101 7 (.int .i64 a0_7) BK101; pxh_ hcz14_8 w10 gb101 8 (.int .i64 a0_8) BK101; pxh_ hcz14_9 w10 gb101 9 (.int .i64 a0_9) BK101; pxh_ hcz14_10 w10 gb101 10 (.int .i64 a0_10) BK101; pxh_ hcz14_11 w10 gb101 11 (.string a0_11) BK101; pxh_ hcz14_12 w10 gb101 12 (.string a0_12) BK101; pxh_ hcz14_13 w10 gb101 13 (.string a0_13) BK101; pxh_ hcz14_14 w10 gb101 14 (.int .i64 a0_14) BK101; pxh_ hcz14_15 w10 gb101 15 (.int .i64 a0_15) BK101; pxh_ hcz14_16 w10 gb101 16 (.int .i64 a0_16) BK101; pxh_ hcz14_17 w10 gb101 17 (.int .i64 a0_17) BK101; pxh_ hcz14_18 w10 gb101 18 (.int .i64 a0_18) BK101; pxh_ hcz14_19 w10 gb101 19 (.int .i64 a0_19) BK101; pxh_ hcz14_20 w10 gb101 20 (.int .i64 a0_20) BK101; pxh_ hcz14_21 w10 gb101 21 (.int .i64 a0_21) BK101; pxh_ hcz14_22 w10 gb101 22 (.int .i64 a0_22) BK101; pxh_ hcz14_23 w10 gb101 23 (.int .i64 a0_23) BK101; pxh_ hcz14_24 w10 gb101 24 (.int .i64 a0_24) BK101; pxh_ hcz14_25 w10 gb101 25 (.string a0_25) BK101; pxh_ hcz14_26 w10 gb101 26 (.string a0_26) BK101; pxh_ hcz14_27 w10 gb101 27 (.string a0_27) BK101; pxh_ hcz14_28 w10 gb101 28 (.int .i64 a0_28) BK101; pxh_ hcz14_29 w10 gb101 29 (.int .i64 a0_29) BK101; pxh_ hcz14_30 w10 gb101 30 (.int .i64 a0_30) BK101; pxh_ hcz14_31 w10 gb101 31 (.int .i64 a0_31) BK101; pxh_ hcz14_32 w10 gb101 32 (.int .i64 a0_32) BK101; pxh_ hcz14_33 w10 gb101 33 (.int .i64 a0_33) BK101; pxh_ hcz14_34 w10 gb101 34 (.int .i64 a0_34) BK101; pxh_ hcz14_35 w10 gb101 35 (.int .i64 a0_35) BK101; pxh_ hcz14_36 w10 gb101 36 (.int .i64 a0_36) BK101; pxh_ hcz14_37 w10 gb101 37 (.string a0_37) BK101; pxh_ hcz14_38 w10 gb101 38 (.slice A0_38 l0_38.length c0_38) BK101; pxh_ hcz14_39 w10 gb101 39 (.int .i64 a0_39) BK101; pxh_ hcz14_40 w10 gb101 40 (.int .i64 a0_40) BK101; pxh_ hcz14_41 w10 gb101 41 (.int .i64 a0_41) BK101; pxh_ hcz14_42 w10 gb101 42 (.int .i64 a0_42) BK101; pxh_ hcz14_43 w10 gb101 43 (.int .i64 a0_43) BK101; pxh_ hcz14_44 w10 gb101 44 (.int .i64 a0_44) BK101; pxh_ hcz14_45 w10 gb101 45 (.int .i64 a0_45) BK101; pxh_ hcz14_46 w10 gb101 46 (.int .i64 a0_46) BK101; pxh_ hcz14_47 w10 gb101 47 (.int .i64 a0_47) BK101; pxh_ hcz14_48 w10 gb101 48 (.string a0_48) BK101; pxh_ hcz14_49 w10 gb101 49 (.slice A0_49 l0_49.length c0_49) BK101; pxf_ hfz14_0 BK101 0; pxf_ hfz14_1 BK101 1; pxf_ hfz14_2 BK101 2; pxf_ hfz14_3 BK101 3; pxf_ hfz14_4 BK101 4; pxf_ hfz14_5 BK101 5; pxf_ hfz14_6 BK101 6; pxf_ hfz14_7 BK101 7; pxf_ hfz14_8 BK101 8; pxf_ hfz14_9 BK101 9; pxf_ hfz14_10 BK101 10; pxf_ hfz14_11 BK101 11; pxf_ hfz14_12 BK101 12; pxf_ hfz14_13 BK101 13; pxf_ hfz14_14 BK101 14; pxf_ hfz14_15 BK101 15; pxf_ hfz14_16 BK101 16; pxf_ hfz14_17 BK101 17; pxf_ hfz14_18 BK101 18; pxf_ hfz14_19 BK101 19; pxf_ hfz14_20 BK101 20; pxf_ hfz14_21 BK101 21; pxf_ hfz14_22 BK101 22; pxf_ hfz14_23 BK101 23; pxf_ hfz14_24 BK101 24; pxf_ hfz14_25 BK101 25; pxf_ hfz14_26 BK101 26; pxf_ hfz14_27 BK101 27; pxf_ hfz14_28 BK101 28; pxf_ hfz14_29 BK101 29; pxf_ hfz14_30 BK101 30; pxf_ hfz14_31 BK101 31; pxf_ hfz14_32 BK101 32; pxf_ hfz14_33 BK101 33; pxf_ hfz14_34 BK101 34; pxf_ hfz14_35 BK101 35; pxf_ hfz14_36 BK101 36; pxf_ hfz14_37 BK101 37; pxf_ hfz14_38 BK101 38; pxf_ hfz14_39 BK101 39; pxf_ hfz14_40 BK101 40; pxf_ hfz14_41 BK101 41; pxf_ hfz14_42 BK101 42; pxf_ hfz14_43 BK101 43; pxf_ hfz14_44 BK101 44; pxf_ hfz14_45 BK101 45; pxf_ hfz14_46 BK101 46; pxf_ hfz14_47 BK101 47; pxf_ hfz14_48 BK101 48; pxf_ hfz14_49 BK101 49) | ((with_reducible refine gate_dst (N := 5) rfl ?_); (try (refine gate_guard (by rfl) ?_; dsimp only)); refine box_event ?hg (N := 5) ?hd (cs := pxA45_) (t := 37) ?hr ?_; (case hd => rfl); (case hg => rfl); (case hr => first | (go_simp; done) | (go_simp; rfl)); intro gb104 hg w15 hbox hb; have n0_ := Aside0.mk (blk_below (g := gb101) (o := .cells pxA1_ 39 (0, 0)) (by (with_reducible repeat (first | refine blk_drewN ?_ _ | refine blk_drew ?_ | refine blk_alloc ?_ _)); refine blk_far ?_ NB101_103.out _; (with_reducible repeat (first | refine blk_drewN ?_ _ | refine blk_drew ?_ | refine blk_alloc ?_ _)); refine blk_far ?_ NB101_103.out _; (with_reducible repeat (first | refine blk_drewN ?_ _ | refine blk_drew ?_ | refine blk_alloc ?_ _)); refine blk_far ?_ NB101_103.out _; (with_reducible repeat (first | refine blk_drewN ?_ _ | refine blk_drew ?_ | refine blk_alloc ?_ _)); refine blk_far ?_ NB101_103.out _; (with_reducible repeat (first | refine blk_drewN ?_ _ | refine blk_drew ?_ | refine blk_alloc ?_ _)); refine blk_far ?_ NB101_103.out _; (with_reducible repeat (first | refine blk_drewN ?_ _ | refine blk_drew ?_ | refine blk_alloc ?_ _)); refine blk_far ?_ NB101_103.out _; (with_reducible repeat (first | refine blk_drewN ?_ _ | refine blk_drew ?_ | refine blk_alloc ?_ _)); refine blk_far ?_ NB101_103.out _; (with_reducible repeat (first | refine blk_drewN ?_ _ | refine blk_drew ?_ | refine blk_alloc ?_ _)); refine blk_far ?_ NB101_103.out _; (with_reducible repeat (first | refine blk_drewN ?_ _ | refine blk_drew ?_ | refine blk_alloc ?_ _)); refine blk_far ?_ NB101_103.out _; (with_reducible repeat (first | refine blk_drewN ?_ _ | refine blk_drew ?_ | refine blk_alloc ?_ _)); refine blk_far ?_ NB101_103.out _; (with_reducible repeat (first | refine blk_drewN ?_ _ | refine blk_drew ?_ | refine blk_alloc ?_ _)); refine blk_far ?_ NB101_103.out _; (with_reducible repeat (first | refine blk_drewN ?_ _ | refine blk_drew ?_ | refine blk_alloc ?_ _)); refine blk_far ?_ NB101_103.out _; (with_reducible repeat (first | refine blk_drewN ?_ _ | refine blk_drew ?_ | refine blk_alloc ?_ _)); refine blk_far ?_ NB101_103.out _; (with_reducible repeat (first | refine blk_drewN ?_ _ | refine blk_drew ?_ | refine blk_alloc ?_ _)); refine blk_far ?_ NB101_103.out _; (with_reducible repeat (first | refine blk_drewN ?_ _ | refine blk_drew ?_ | refine blk_alloc ?_ _)); exact BK101.out) hb); have n1_ := Aside0.mk (blk_below (g := gb102) (o := .cells pxA30_ 32 (0, 0)) (by (with_reducible repeat (first | refine blk_drewN ?_ _ | refine blk_drew ?_ | refine blk_alloc ?_ _)); refine blk_far ?_ NB102_103.out _; (with_reducible repeat (first | refine blk_drewN ?_ _ | refine blk_drew ?_ | refine blk_alloc ?_ _)); refine blk_far ?_ NB102_103.out _; (with_reducible repeat (first | refine blk_drewN ?_ _ | refine blk_drew ?_ | refine blk_alloc ?_ _)); refine blk_far ?_ NB102_103.out _; (with_reducible repeat (first | refine blk_drewN ?_ _ | refine blk_drew ?_ | refine blk_alloc ?_ _)); refine blk_far ?_ NB102_103.out _; (with_reducible repeat (first | refine blk_drewN ?_ _ | refine blk_drew ?_ | refine blk_alloc ?_ _)); refine blk_far ?_ NB102_103.out _; (with_reducible repeat (first | refine blk_drewN ?_ _ | refine blk_drew ?_ | refine blk_alloc ?_ _)); refine blk_far ?_ NB102_103.out _; (with_reducible repeat (first | refine blk_drewN ?_ _ | refine blk_drew ?_ | refine blk_alloc ?_ _)); refine blk_far ?_ NB102_103.out _; (with_reducible repeat (first | refine blk_drewN ?_ _ | refine blk_drew ?_ | refine blk_alloc ?_ _)); refine blk_far ?_ NB102_103.out _; (with_reducible repeat (first | refine blk_drewN ?_ _ | refine blk_drew ?_ | refine blk_alloc ?_ _)); refine blk_far ?_ NB102_103.out _; (with_reducible repeat (first | refine blk_drewN ?_ _ | refine blk_drew ?_ | refine blk_alloc ?_ _)); refine blk_far ?_ NB102_103.out _; (with_reducible repeat (first | refine blk_drewN ?_ _ | refine blk_drew ?_ | refine blk_alloc ?_ _)); refine blk_far ?_ NB102_103.out _; (with_reducible repeat (first | refine blk_drewN ?_ _ | refine blk_drew ?_ | refine blk_alloc ?_ _)); refine blk_far ?_ NB102_103.out _; (with_reducible repeat (first | refine blk_drewN ?_ _ | refine blk_drew ?_ | refine blk_alloc ?_ _)); refine blk_far ?_ NB102_103.out _; (with_reducible repeat (first | refine blk_drewN ?_ _ | refine blk_drew ?_ | refine blk_alloc ?_ _)); refine blk_far ?_ NB102_103.out _; (with_reducible repeat (first | refine blk_drewN ?_ _ | refine blk_drew ?_ | refine blk_alloc ?_ _)); exact BK102.out) hb); have n2_ := Aside0.mk (blk_below (g := gb103) (o := .cells pxA28_ 32 (0, 0)) (by (with_reducible repeat (first | refine blk_drewN ?_ _ | refine blk_drew ?_ | refine blk_alloc ?_ _)); refine blk_put (cs := pxA17_) ?_ 13 _ rfl; (with_reducible repeat (first | refine blk_drewN ?_ _ | refine blk_drew ?_ | refine blk_alloc ?_ _)); refine blk_put (cs := pxA8_) ?_ 12 _ rfl; (with_reducible repeat (first | refine blk_drewN ?_ _ | refine blk_drew ?_ | refine blk_alloc ?_ _)); refine blk_put (cs := pxA2_) ?_ 11 _ rfl; (with_reducible repeat (first | refine blk_drewN ?_ _ | refine blk_drew ?_ | refine blk_alloc ?_ _)); refine blk_put (cs := pxA3_) ?_ 10 _ rfl; (with_reducible repeat (first | refine blk_drewN ?_ _ | refine blk_drew ?_ | refine blk_alloc ?_ _)); refine blk_put (cs := pxA4_) ?_ 9 _ rfl; (with_reducible repeat (first | refine blk_drewN ?_ _ | refine blk_drew ?_ | refine blk_alloc ?_ _)); refine blk_put (cs := pxA6_) ?_ 8 _ rfl; (with_reducible repeat (first | refine blk_drewN ?_ _ | refine blk_drew ?_ | refine blk_alloc ?_ _)); refine blk_put (cs := pxA9_) ?_ 7 _ rfl; (with_reducible repeat (first | refine blk_drewN ?_ _ | refine blk_drew ?_ | refine blk_alloc ?_ _)); refine blk_put (cs := pxA12_) ?_ 6 _ rfl; (with_reducible repeat (first | refine blk_drewN ?_ _ | refine blk_drew ?_ | refine blk_alloc ?_ _)); refine blk_put (cs := pxA15_) ?_ 5 _ rfl; (with_reducible repeat (first | refine blk_drewN ?_ _ | refine blk_drew ?_ | refine blk_alloc ?_ _)); refine blk_put (cs := pxA18_) ?_ 4 _ rfl; (with_reducible repeat (first | refine blk_drewN ?_ _ | refine blk_drew ?_ | refine blk_alloc ?_ _)); refine blk_put (cs := pxA21_) ?_ 3 _ rfl; (with_reducible repeat (first | refine blk_drewN ?_ _ | refine blk_drew ?_ | refine blk_alloc ?_ _)); refine blk_put (cs := pxA23_) ?_ 2 _ rfl; (with_reducible repeat (first | refine blk_drewN ?_ _ | refine blk_drew ?_ | refine blk_alloc ?_ _)); refine blk_put (cs := pxA26_) ?_ 1 _ rfl; (with_reducible repeat (first | refine blk_drewN ?_ _ | refine blk_drew ?_ | refine blk_alloc ?_ _)); refine blk_put (cs := pxA29_) ?_ 0 _ rfl; (with_reducible repeat (first | refine blk_drewN ?_ _ | refine blk_drew ?_ | refine blk_alloc ?_ _)); exact BK103.out) hb); have n3_ := Aside0.mk (below_step (by repeat (first | (with_reducible first | exact HB.out | apply below_alloc | apply pw_below_drewN | apply below_drew1 | refine below_set ?_ GE101.out | refine below_set ?_ GE102.out | refine below_set ?_ GE103.out) | exact HB.out)) hb); have n4_ := Aside0.mk (hbox); have n5_ := Aside0.mk ((by rw [hg]; exact (below_size (by repeat (first | (with_reducible first | exact HB.out | apply below_alloc | apply pw_below_drewN | apply below_drew1 | refine below_set ?_ GE101.out | refine below_set ?_ GE102.out | refine below_set ?_ GE103.out) | exact HB.out))) : w.heap.size ≤ gb104)); have n6_ := Aside0.mk ((by rw [hg]; exact (below_size (by repeat (first | (with_reducible first | exact HB.out | apply below_alloc | apply pw_below_drewN | apply below_drew1 | refine below_set ?_ GE101.out | refine below_set ?_ GE102.out | refine below_set ?_ GE103.out) | exact HB.out))) : w.heap.size ≤ gb104)); have n7_ := Aside0.mk ((by rw [hg]; exact Nat.ne_of_lt (blk_lt (g := gb101) (o := .cells pxA1_ 39 (0, 0)) (by (with_reducible repeat (first | refine blk_drewN ?_ _ | refine blk_drew ?_ | refine blk_alloc ?_ _)); refine blk_far ?_ NB101_103.out _; (with_reducible repeat (first | refine blk_drewN ?_ _ | refine blk_drew ?_ | refine blk_alloc ?_ _)); refine blk_far ?_ NB101_103.out _; (with_reducible repeat (first | refine blk_drewN ?_ _ | refine blk_drew ?_ | refine blk_alloc ?_ _)); refine blk_far ?_ NB101_103.out _; (with_reducible repeat (first | refine blk_drewN ?_ _ | refine blk_drew ?_ | refine blk_alloc ?_ _)); refine blk_far ?_ NB101_103.out _; (with_reducible repeat (first | refine blk_drewN ?_ _ | refine blk_drew ?_ | refine blk_alloc ?_ _)); refine blk_far ?_ NB101_103.out _; (with_reducible repeat (first | refine blk_drewN ?_ _ | refine blk_drew ?_ | refine blk_alloc ?_ _)); refine blk_far ?_ NB101_103.out _; (with_reducible repeat (first | refine blk_drewN ?_ _ | refine blk_drew ?_ | refine blk_alloc ?_ _)); refine blk_far ?_ NB101_103.out _; (with_reducible repeat (first | refine blk_drewN ?_ _ | refine blk_drew ?_ | refine blk_alloc ?_ _)); refine blk_far ?_ NB101_103.out _; (with_reducible repeat (first | refine blk_drewN ?_ _ | refine blk_drew ?_ | refine blk_alloc ?_ _)); refine blk_far ?_ NB101_103.out _; (with_reducible repeat (first | refine blk_drewN ?_ _ | refine blk_drew ?_ | refine blk_alloc ?_ _)); refine blk_far ?_ NB101_103.out _; (with_reducible repeat (first | refine blk_drewN ?_ _ | refine blk_drew ?_ | refine blk_alloc ?_ _)); refine blk_far ?_ NB101_103.out _; (with_reducible repeat (first | refine blk_drewN ?_ _ | refine blk_drew ?_ | refine blk_alloc ?_ _)); refine blk_far ?_ NB101_103.out _; (with_reducible repeat (first | refine blk_drewN ?_ _ | refine blk_drew ?_ | refine blk_alloc ?_ _)); refine blk_far ?_ NB101_103.out _; (with_reducible repeat (first | refine blk_drewN ?_ _ | refine blk_drew ?_ | refine blk_alloc ?_ _)); refine blk_far ?_ NB101_103.out _; (with_reducible repeat (first | refine blk_drewN ?_ _ | refine blk_drew ?_ | refine blk_alloc ?_ _)); exact BK101.out)) : gb101 ≠ gb104)); have n8_ := Aside0.mk ((by rw [hg]; exact Nat.ne_of_gt (blk_lt (g := gb101) (o := .cells pxA1_ 39 (0, 0)) (by (with_reducible repeat (first | refine blk_drewN ?_ _ | refine blk_drew ?_ | refine blk_alloc ?_ _)); refine blk_far ?_ NB101_103.out _; (with_reducible repeat (first | refine blk_drewN ?_ _ | refine blk_drew ?_ | refine blk_alloc ?_ _)); refine blk_far ?_ NB101_103.out _; (with_reducible repeat (first | refine blk_drewN ?_ _ | refine blk_drew ?_ | refine blk_alloc ?_ _)); refine blk_far ?_ NB101_103.out _; (with_reducible repeat (first | refine blk_drewN ?_ _ | refine blk_drew ?_ | refine blk_alloc ?_ _)); refine blk_far ?_ NB101_103.out _; (with_reducible repeat (first | refine blk_drewN ?_ _ | refine blk_drew ?_ | refine blk_alloc ?_ _)); refine blk_far ?_ NB101_103.out _; (with_reducible repeat (first | refine blk_drewN ?_ _ | refine blk_drew ?_ | refine blk_alloc ?_ _)); refine blk_far ?_ NB101_103.out _; (with_reducible repeat (first | refine blk_drewN ?_ _ | refine blk_drew ?_ | refine blk_alloc ?_ _)); refine blk_far ?_ NB101_103.out _; (with_reducible repeat (first | refine blk_drewN ?_ _ | refine blk_drew ?_ | refine blk_alloc ?_ _)); refine blk_far ?_ NB101_103.out _; (with_reducible repeat (first | refine blk_drewN ?_ _ | refine blk_drew ?_ | refine blk_alloc ?_ _)); refine blk_far ?_ NB101_103.out _; (with_reducible repeat (first | refine blk_drewN ?_ _ | refine blk_drew ?_ | refine blk_alloc ?_ _)); refine blk_far ?_ NB101_103.out _; (with_reducible repeat (first | refine blk_drewN ?_ _ | refine blk_drew ?_ | refine blk_alloc ?_ _)); refine blk_far ?_ NB101_103.out _; (with_reducible repeat (first | refine blk_drewN ?_ _ | refine blk_drew ?_ | refine blk_alloc ?_ _)); refine blk_far ?_ NB101_103.out _; (with_reducible repeat (first | refine blk_drewN ?_ _ | refine blk_drew ?_ | refine blk_alloc ?_ _)); refine blk_far ?_ NB101_103.out _; (with_reducible repeat (first | refine blk_drewN ?_ _ | refine blk_drew ?_ | refine blk_alloc ?_ _)); refine blk_far ?_ NB101_103.out _; (with_reducible repeat (first | refine blk_drewN ?_ _ | refine blk_drew ?_ | refine blk_alloc ?_ _)); exact BK101.out)) : gb104 ≠ gb101)); have n9_ := Aside0.mk ((by rw [hg]; exact Nat.ne_of_lt (blk_lt (g := gb102) (o := .cells pxA30_ 32 (0, 0)) (by (with_reducible repeat (first | refine blk_drewN ?_ _ | refine blk_drew ?_ | refine blk_alloc ?_ _)); refine blk_far ?_ NB102_103.out _; (with_reducible repeat (first | refine blk_drewN ?_ _ | refine blk_drew ?_ | refine blk_alloc ?_ _)); refine blk_far ?_ NB102_103.out _; (with_reducible repeat (first | refine blk_drewN ?_ _ | refine blk_drew ?_ | refine blk_alloc ?_ _)); refine blk_far ?_ NB102_103.out _; (with_reducible repeat (first | refine blk_drewN ?_ _ | refine blk_drew ?_ | refine blk_alloc ?_ _)); refine blk_far ?_ NB102_103.out _; (with_reducible repeat (first | refine blk_drewN ?_ _ | refine blk_drew ?_ | refine blk_alloc ?_ _)); refine blk_far ?_ NB102_103.out _; (with_reducible repeat (first | refine blk_drewN ?_ _ | refine blk_drew ?_ | refine blk_alloc ?_ _)); refine blk_far ?_ NB102_103.out _; (with_reducible repeat (first | refine blk_drewN ?_ _ | refine blk_drew ?_ | refine blk_alloc ?_ _)); refine blk_far ?_ NB102_103.out _; (with_reducible repeat (first | refine blk_drewN ?_ _ | refine blk_drew ?_ | refine blk_alloc ?_ _)); refine blk_far ?_ NB102_103.out _; (with_reducible repeat (first | refine blk_drewN ?_ _ | refine blk_drew ?_ | refine blk_alloc ?_ _)); refine blk_far ?_ NB102_103.out _; (with_reducible repeat (first | refine blk_drewN ?_ _ | refine blk_drew ?_ | refine blk_alloc ?_ _)); refine blk_far ?_ NB102_103.out _; (with_reducible repeat (first | refine blk_drewN ?_ _ | refine blk_drew ?_ | refine blk_alloc ?_ _)); refine blk_far ?_ NB102_103.out _; (with_reducible repeat (first | refine blk_drewN ?_ _ | refine blk_drew ?_ | refine blk_alloc ?_ _)); refine blk_far ?_ NB102_103.out _; (with_reducible repeat (first | refine blk_drewN ?_ _ | refine blk_drew ?_ | refine blk_alloc ?_ _)); refine blk_far ?_ NB102_103.out _; (with_reducible repeat (first | refine blk_drewN ?_ _ | refine blk_drew ?_ | refine blk_alloc ?_ _)); refine blk_far ?_ NB102_103.out _; (with_reducible repeat (first | refine blk_drewN ?_ _ | refine blk_drew ?_ | refine blk_alloc ?_ _)); exact BK102.out)) : gb102 ≠ gb104)); have n10_ := Aside0.mk ((by rw [hg]; exact Nat.ne_of_gt (blk_lt (g := gb102) (o := .cells pxA30_ 32 (0, 0)) (by (with_reducible repeat (first | refine blk_drewN ?_ _ | refine blk_drew ?_ | refine blk_alloc ?_ _)); refine blk_far ?_ NB102_103.out _; (with_reducible repeat (first | refine blk_drewN ?_ _ | refine blk_drew ?_ | refine blk_alloc ?_ _)); refine blk_far ?_ NB102_103.out _; (with_reducible repeat (first | refine blk_drewN ?_ _ | refine blk_drew ?_ | refine blk_alloc ?_ _)); refine blk_far ?_ NB102_103.out _; (with_reducible repeat (first | refine blk_drewN ?_ _ | refine blk_drew ?_ | refine blk_alloc ?_ _)); refine blk_far ?_ NB102_103.out _; (with_reducible repeat (first | refine blk_drewN ?_ _ | refine blk_drew ?_ | refine blk_alloc ?_ _)); refine blk_far ?_ NB102_103.out _; (with_reducible repeat (first | refine blk_drewN ?_ _ | refine blk_drew ?_ | refine blk_alloc ?_ _)); refine blk_far ?_ NB102_103.out _; (with_reducible repeat (first | refine blk_drewN ?_ _ | refine blk_drew ?_ | refine blk_alloc ?_ _)); refine blk_far ?_ NB102_103.out _; (with_reducible repeat (first | refine blk_drewN ?_ _ | refine blk_drew ?_ | refine blk_alloc ?_ _)); refine blk_far ?_ NB102_103.out _; (with_reducible repeat (first | refine blk_drewN ?_ _ | refine blk_drew ?_ | refine blk_alloc ?_ _)); refine blk_far ?_ NB102_103.out _; (with_reducible repeat (first | refine blk_drewN ?_ _ | refine blk_drew ?_ | refine blk_alloc ?_ _)); refine blk_far ?_ NB102_103.out _; (with_reducible repeat (first | refine blk_drewN ?_ _ | refine blk_drew ?_ | refine blk_alloc ?_ _)); refine blk_far ?_ NB102_103.out _; (with_reducible repeat (first | refine blk_drewN ?_ _ | refine blk_drew ?_ | refine blk_alloc ?_ _)); refine blk_far ?_ NB102_103.out _; (with_reducible repeat (first | refine blk_drewN ?_ _ | refine blk_drew ?_ | refine blk_alloc ?_ _)); refine blk_far ?_ NB102_103.out _; (with_reducible repeat (first | refine blk_drewN ?_ _ | refine blk_drew ?_ | refine blk_alloc ?_ _)); refine blk_far ?_ NB102_103.out _; (with_reducible repeat (first | refine blk_drewN ?_ _ | refine blk_drew ?_ | refine blk_alloc ?_ _)); exact BK102.out)) : gb104 ≠ gb102)); have n11_ := Aside0.mk ((by rw [hg]; exact Nat.ne_of_lt (blk_lt (g := gb103) (o := .cells pxA28_ 32 (0, 0)) (by (with_reducible repeat (first | refine blk_drewN ?_ _ | refine blk_drew ?_ | refine blk_alloc ?_ _)); refine blk_put (cs := pxA17_) ?_ 13 _ rfl; (with_reducible repeat (first | refine blk_drewN ?_ _ | refine blk_drew ?_ | refine blk_alloc ?_ _)); refine blk_put (cs := pxA8_) ?_ 12 _ rfl; (with_reducible repeat (first | refine blk_drewN ?_ _ | refine blk_drew ?_ | refine blk_alloc ?_ _)); refine blk_put (cs := pxA2_) ?_ 11 _ rfl; (with_reducible repeat (first | refine blk_drewN ?_ _ | refine blk_drew ?_ | refine blk_alloc ?_ _)); refine blk_put (cs := pxA3_) ?_ 10 _ rfl; (with_reducible repeat (first | refine blk_drewN ?_ _ | refine blk_drew ?_ | refine blk_alloc ?_ _)); refine blk_put (cs := pxA4_) ?_ 9 _ rfl; (with_reducible repeat (first | refine blk_drewN ?_ _ | refine blk_drew ?_ | refine blk_alloc ?_ _)); refine blk_put (cs := pxA6_) ?_ 8 _ rfl; (with_reducible repeat (first | refine blk_drewN ?_ _ | refine blk_drew ?_ | refine blk_alloc ?_ _)); refine blk_put (cs := pxA9_) ?_ 7 _ rfl; (with_reducible repeat (first | refine blk_drewN ?_ _ | refine blk_drew ?_ | refine blk_alloc ?_ _)); refine blk_put (cs := pxA12_) ?_ 6 _ rfl; (with_reducible repeat (first | refine blk_drewN ?_ _ | refine blk_drew ?_ | refine blk_alloc ?_ _)); refine blk_put (cs := pxA15_) ?_ 5 _ rfl; (with_reducible repeat (first | refine blk_drewN ?_ _ | refine blk_drew ?_ | refine blk_alloc ?_ _)); refine blk_put (cs := pxA18_) ?_ 4 _ rfl; (with_reducible repeat (first | refine blk_drewN ?_ _ | refine blk_drew ?_ | refine blk_alloc ?_ _)); refine blk_put (cs := pxA21_) ?_ 3 _ rfl; (with_reducible repeat (first | refine blk_drewN ?_ _ | refine blk_drew ?_ | refine blk_alloc ?_ _)); refine blk_put (cs := pxA23_) ?_ 2 _ rfl; (with_reducible repeat (first | refine blk_drewN ?_ _ | refine blk_drew ?_ | refine blk_alloc ?_ _)); refine blk_put (cs := pxA26_) ?_ 1 _ rfl; (with_reducible repeat (first | refine blk_drewN ?_ _ | refine blk_drew ?_ | refine blk_alloc ?_ _)); refine blk_put (cs := pxA29_) ?_ 0 _ rfl; (with_reducible repeat (first | refine blk_drewN ?_ _ | refine blk_drew ?_ | refine blk_alloc ?_ _)); exact BK103.out)) : gb103 ≠ gb104)); have n12_ := Aside0.mk ((by rw [hg]; exact Nat.ne_of_gt (blk_lt (g := gb103) (o := .cells pxA28_ 32 (0, 0)) (by (with_reducible repeat (first | refine blk_drewN ?_ _ | refine blk_drew ?_ | refine blk_alloc ?_ _)); refine blk_put (cs := pxA17_) ?_ 13 _ rfl; (with_reducible repeat (first | refine blk_drewN ?_ _ | refine blk_drew ?_ | refine blk_alloc ?_ _)); refine blk_put (cs := pxA8_) ?_ 12 _ rfl; (with_reducible repeat (first | refine blk_drewN ?_ _ | refine blk_drew ?_ | refine blk_alloc ?_ _)); refine blk_put (cs := pxA2_) ?_ 11 _ rfl; (with_reducible repeat (first | refine blk_drewN ?_ _ | refine blk_drew ?_ | refine blk_alloc ?_ _)); refine blk_put (cs := pxA3_) ?_ 10 _ rfl; (with_reducible repeat (first | refine blk_drewN ?_ _ | refine blk_drew ?_ | refine blk_alloc ?_ _)); refine blk_put (cs := pxA4_) ?_ 9 _ rfl; (with_reducible repeat (first | refine blk_drewN ?_ _ | refine blk_drew ?_ | refine blk_alloc ?_ _)); refine blk_put (cs := pxA6_) ?_ 8 _ rfl; (with_reducible repeat (first | refine blk_drewN ?_ _ | refine blk_drew ?_ | refine blk_alloc ?_ _)); refine blk_put (cs := pxA9_) ?_ 7 _ rfl; (with_reducible repeat (first | refine blk_drewN ?_ _ | refine blk_drew ?_ | refine blk_alloc ?_ _)); refine blk_put (cs := pxA12_) ?_ 6 _ rfl; (with_reducible repeat (first | refine blk_drewN ?_ _ | refine blk_drew ?_ | refine blk_alloc ?_ _)); refine blk_put (cs := pxA15_) ?_ 5 _ rfl; (with_reducible repeat (first | refine blk_drewN ?_ _ | refine blk_drew ?_ | refine blk_alloc ?_ _)); refine blk_put (cs := pxA18_) ?_ 4 _ rfl; (with_reducible repeat (first | refine blk_drewN ?_ _ | refine blk_drew ?_ | refine blk_alloc ?_ _)); refine blk_put (cs := pxA21_) ?_ 3 _ rfl; (with_reducible repeat (first | refine blk_drewN ?_ _ | refine blk_drew ?_ | refine blk_alloc ?_ _)); refine blk_put (cs := pxA23_) ?_ 2 _ rfl; (with_reducible repeat (first | refine blk_drewN ?_ _ | refine blk_drew ?_ | refine blk_alloc ?_ _)); refine blk_put (cs := pxA26_) ?_ 1 _ rfl; (with_reducible repeat (first | refine blk_drewN ?_ _ | refine blk_drew ?_ | refine blk_alloc ?_ _)); refine blk_put (cs := pxA29_) ?_ 0 _ rfl; (with_reducible repeat (first | refine blk_drewN ?_ _ | refine blk_drew ?_ | refine blk_alloc ?_ _)); exact BK103.out)) : gb104 ≠ gb103)); clear BK101; clear BK102; clear BK103; clear HB; have BK101 := n0_; have BK102 := n1_; have BK103 := n2_; have HB := n3_; have BK104 := n4_; have GW104 := n5_; have GE104 := n6_; have NB101_104 := n7_; have NB104_101 := n8_; have NB102_104 := n9_; have NB104_102 := n10_; have NB103_104 := n11_; have NB104_103 := n12_; clear n0_ n1_ n2_ n3_ n4_ n5_ n6_ n7_ n8_ n9_ n10_ n11_ n12_; clear hb hbox hg; have hnb16 := NB104_101.out; have hnc16 := NB101_104.out; have hnb17 := NB104_102.out; have hnc17 := NB102_104.out; have hnb18 := NB104_103.out; have hnc18 := NB103_104.out; pxh_ hcz19_0 w15 gb104 0 (.int .i64 0) BK104; pxh_ hcz19_1 w15 gb104 1 (.int .i64 0) BK104; pxh_ hcz19_2 w15 gb104 2 (.int .i64 0) BK104; pxh_ hcz19_3 w15 gb104 3 (.int .i64 0) BK104; pxh_ hcz19_4 w15 gb104 4 (.int .i64 0) BK104; pxh_ hcz19_5 w15 gb104 5 (.int .i64 0) BK104; pxh_ hcz19_6 w15 gb104 6 (.int .i64 0) BK104; pxh_ hcz19_7 w15 gb104 7 (.int .i64 0) BK104; pxh_ hcz19_8 w15 gb104 8 (.int .i64 0) BK104; pxh_ hcz19_9 w15 gb104 9 (.string (⟨#[]⟩ : ByteArray)) BK104; pxh_ hcz19_10 w15 gb104 10 (.slice none 0 0) BK104; pxf_ hfz19_0 BK104 0; pxf_ hfz19_1 BK104 1; pxf_ hfz19_2 BK104 2; pxf_ hfz19_3 BK104 3; pxf_ hfz19_4 BK104 4; pxf_ hfz19_5 BK104 5; pxf_ hfz19_6 BK104 6; pxf_ hfz19_7 BK104 7; pxf_ hfz19_8 BK104 8; pxf_ hfz19_9 BK104 9; pxf_ hfz19_10 BK104 10; pxh_ hcz20_0 w15 gb101 0 (.int .i64 a0_0) BK101; pxh_ hcz20_1 w15 gb101 1 (.int .i64 a0_1) BK101; pxh_ hcz20_2 w15 gb101 2 (.int .i64 a0_2) BK101; pxh_ hcz20_3 w15 gb101 3 (.int .i64 a0_3) BK101; pxh_ hcz20_4 w15 gb101 4 (.int .i64 a0_4) BK101; pxh_ hcz20_5 w15 gb101 5 (.int .i64 a0_5) BK101; pxh_ hcz20_6 w15 gb101 6 (.int .i64 a0_6) BK101; pxh_ hcz20_7 w15 gb101 7 (.int .i64 a0_7) BK101; pxh_ hcz20_8 w15 gb101 8 (.int .i64 a0_8) BK101; pxh_ hcz20_9 w15 gb101 9 (.int .i64 a0_9) BK101; pxh_ hcz20_10 w15 gb101 10 (.int .i64 a0_10) BK101; pxh_ hcz20_11 w15 gb101 11 (.string a0_11) BK101; pxh_ hcz20_12 w15 gb101 12 (.string a0_12) BK101; pxh_ hcz20_13 w15 gb101 13 (.string a0_13) BK101; pxh_ hcz20_14 w15 gb101 14 (.int .i64 a0_14) BK101; pxh_ hcz20_15 w15 gb101 15 (.int .i64 a0_15) BK101; pxh_ hcz20_16 w15 gb101 16 (.int .i64 a0_16) BK101; pxh_ hcz20_17 w15 gb101 17 (.int .i64 a0_17) BK101; pxh_ hcz20_18 w15 gb101 18 (.int .i64 a0_18) BK101; pxh_ hcz20_19 w15 gb101 19 (.int .i64 a0_19) BK101; pxh_ hcz20_20 w15 gb101 20 (.int .i64 a0_20) BK101; pxh_ hcz20_21 w15 gb101 21 (.int .i64 a0_21) BK101; pxh_ hcz20_22 w15 gb101 22 (.int .i64 a0_22) BK101; pxh_ hcz20_23 w15 gb101 23 (.int .i64 a0_23) BK101; pxh_ hcz20_24 w15 gb101 24 (.int .i64 a0_24) BK101; pxh_ hcz20_25 w15 gb101 25 (.string a0_25) BK101; pxh_ hcz20_26 w15 gb101 26 (.string a0_26) BK101; pxh_ hcz20_27 w15 gb101 27 (.string a0_27) BK101; pxh_ hcz20_28 w15 gb101 28 (.int .i64 a0_28) BK101; pxh_ hcz20_29 w15 gb101 29 (.int .i64 a0_29) BK101; pxh_ hcz20_30 w15 gb101 30 (.int .i64 a0_30) BK101; pxh_ hcz20_31 w15 gb101 31 (.int .i64 a0_31) BK101; pxh_ hcz20_32 w15 gb101 32 (.int .i64 a0_32) BK101; pxh_ hcz20_33 w15 gb101 33 (.int .i64 a0_33) BK101; pxh_ hcz20_34 w15 gb101 34 (.int .i64 a0_34) BK101; pxh_ hcz20_35 w15 gb101 35 (.int .i64 a0_35) BK101; pxh_ hcz20_36 w15 gb101 36 (.int .i64 a0_36) BK101; pxh_ hcz20_37 w15 gb101 37 (.string a0_37) BK101; pxh_ hcz20_38 w15 gb101 38 (.slice A0_38 l0_38.length c0_38) BK101; pxh_ hcz20_39 w15 gb101 39 (.int .i64 a0_39) BK101; pxh_ hcz20_40 w15 gb101 40 (.int .i64 a0_40) BK101; pxh_ hcz20_41 w15 gb101 41 (.int .i64 a0_41) BK101; pxh_ hcz20_42 w15 gb101 42 (.int .i64 a0_42) BK101; pxh_ hcz20_43 w15 gb101 43 (.int .i64 a0_43) BK101; pxh_ hcz20_44 w15 gb101 44 (.int .i64 a0_44) BK101; pxh_ hcz20_45 w15 gb101 45 (.int .i64 a0_45) BK101; pxh_ hcz20_46 w15 gb101 46 (.int .i64 a0_46) BK101; pxh_ hcz20_47 w15 gb101 47 (.int .i64 a0_47) BK101; pxh_ hcz20_48 w15 gb101 48 (.string a0_48) BK101; pxh_ hcz20_49 w15 gb101 49 (.slice A0_49 l0_49.length c0_49) BK101; pxf_ hfz20_0 BK101 0; pxf_ hfz20_1 BK101 1; pxf_ hfz20_2 BK101 2; pxf_ hfz20_3 BK101 3; pxf_ hfz20_4 BK101 4; pxf_ hfz20_5 BK101 5; pxf_ hfz20_6 BK101 6; pxf_ hfz20_7 BK101 7; pxf_ hfz20_8 BK101 8; pxf_ hfz20_9 BK101 9; pxf_ hfz20_10 BK101 10; pxf_ hfz20_11 BK101 11; pxf_ hfz20_12 BK101 12; pxf_ hfz20_13 BK101 13; pxf_ hfz20_14 BK101 14; pxf_ hfz20_15 BK101 15; pxf_ hfz20_16 BK101 16; pxf_ hfz20_17 BK101 17; pxf_ hfz20_18 BK101 18; pxf_ hfz20_19 BK101 19; pxf_ hfz20_20 BK101 20; pxf_ hfz20_21 BK101 21; pxf_ hfz20_22 BK101 22; pxf_ hfz20_23 BK101 23; pxf_ hfz20_24 BK101 24; pxf_ hfz20_25 BK101 25; pxf_ hfz20_26 BK101 26; pxf_ hfz20_27 BK101 27; pxf_ hfz20_28 BK101 28; pxf_ hfz20_29 BK101 29; pxf_ hfz20_30 BK101 30; pxf_ hfz20_31 BK101 31; pxf_ hfz20_32 BK101 32; pxf_ hfz20_33 BK101 33; pxf_ hfz20_34 BK101 34; pxf_ hfz20_35 BK101 35; pxf_ hfz20_36 BK101 36; pxf_ hfz20_37 BK101 37; pxf_ hfz20_38 BK101 38; pxf_ hfz20_39 BK101 39; pxf_ hfz20_40 BK101 40; pxf_ hfz20_41 BK101 41; pxf_ hfz20_42 BK101 42; pxf_ hfz20_43 BK101 43; pxf_ hfz20_44 BK101 44; pxf_ hfz20_45 BK101 45; pxf_ hfz20_46 BK101 46; pxf_ hfz20_47 BK101 47; pxf_ hfz20_48 BK101 48; pxf_ hfz20_49 BK101 49) | ((with_reducible refine gate_dst (N := 6) rfl ?_); (try (refine gate_guard (by rfl) ?_; dsimp only)); refine box_event ?hg (N := 6) ?hd (cs := pxA45_) (t := 37) ?hr ?_; (case hd => rfl); (case hg => rfl); (case hr => first | (go_simp; done) | (go_simp; rfl)); intro gb105 hg w21 hbox hb; have n0_ := Aside0.mk (blk_below (g := gb101) (o := .cells pxA1_ 39 (0, 0)) (by (with_reducible repeat (first | refine blk_drewN ?_ _ | refine blk_drew ?_ | refine blk_alloc ?_ _)); refine blk_far ?_ NB101_104.out _; (with_reducible repeat (first | refine blk_drewN ?_ _ | refine blk_drew ?_ | refine blk_alloc ?_ _)); refine blk_far ?_ NB101_104.out _; (with_reducible repeat (first | refine blk_drewN ?_ _ | refine blk_drew ?_ | refine blk_alloc ?_ _)); refine blk_far ?_ NB101_104.out _; (with_reducible repeat (first | refine blk_drewN ?_ _ | refine blk_drew ?_ | refine blk_alloc ?_ _)); refine blk_far ?_ NB101_104.out _; (with_reducible repeat (first | refine blk_drewN ?_ _ | refine blk_drew ?_ | refine blk_alloc ?_ _)); refine blk_far ?_ NB101_104.out _; (with_reducible repeat (first | refine blk_drewN ?_ _ | refine blk_drew ?_ | refine blk_alloc ?_ _)); refine blk_far ?_ NB101_104.out _; (with_reducible repeat (first | refine blk_drewN ?_ _ | refine blk_drew ?_ | refine blk_alloc ?_ _)); refine blk_far ?_ NB101_104.out _; (with_reducible repeat (first | refine blk_drewN ?_ _ | refine blk_drew ?_ | refine blk_alloc ?_ _)); refine blk_far ?_ NB101_104.out _; (with_reducible repeat (first | refine blk_drewN ?_ _ | refine blk_drew ?_ | refine blk_alloc ?_ _)); refine blk_far ?_ NB101_104.out _; (with_reducible repeat (first | refine blk_drewN ?_ _ | refine blk_drew ?_ | refine blk_alloc ?_ _)); refine blk_far ?_ NB101_104.out _; (with_reducible repeat (first | refine blk_drewN ?_ _ | refine blk_drew ?_ | refine blk_alloc ?_ _)); refine blk_far ?_ NB101_104.out _; (with_reducible repeat (first | refine blk_drewN ?_ _ | refine blk_drew ?_ | refine blk_alloc ?_ _)); exact BK101.out) hb); have n1_ := Aside0.mk (blk_below (g := gb102) (o := .cells pxA30_ 32 (0, 0)) (by (with_reducible repeat (first | refine blk_drewN ?_ _ | refine blk_drew ?_ | refine blk_alloc ?_ _)); refine blk_far ?_ NB102_104.out _; (with_reducible repeat (first | refine blk_drewN ?_ _ | refine blk_drew ?_ | refine blk_alloc ?_ _)); refine blk_far ?_ NB102_104.out _; (with_reducible repeat (first | refine blk_drewN ?_ _ | refine blk_drew ?_ | refine blk_alloc ?_ _)); refine blk_far ?_ NB102_104.out _; (with_reducible repeat (first | refine blk_drewN ?_ _ | refine blk_drew ?_ | refine blk_alloc ?_ _)); refine blk_far ?_ NB102_104.out _; (with_reducible repeat (first | refine blk_drewN ?_ _ | refine blk_drew ?_ | refine blk_alloc ?_ _)); refine blk_far ?_ NB102_104.out _; (with_reducible repeat (first | refine blk_drewN ?_ _ | refine blk_drew ?_ | refine blk_alloc ?_ _)); refine blk_far ?_ NB102_104.out _; (with_reducible repeat (first | refine blk_drewN ?_ _ | refine blk_drew ?_ | refine blk_alloc ?_ _)); refine blk_far ?_ NB102_104.out _; (with_reducible repeat (first | refine blk_drewN ?_ _ | refine blk_drew ?_ | refine blk_alloc ?_ _)); refine blk_far ?_ NB102_104.out _; (with_reducible repeat (first | refine blk_drewN ?_ _ | refine blk_drew ?_ | refine blk_alloc ?_ _)); refine blk_far ?_ NB102_104.out _; (with_reducible repeat (first | refine blk_drewN ?_ _ | refine blk_drew ?_ | refine blk_alloc ?_ _)); refine blk_far ?_ NB102_104.out _; (with_reducible repeat (first | refine blk_drewN ?_ _ | refine blk_drew ?_ | refine blk_alloc ?_ _)); refine blk_far ?_ NB102_104.out _; (with_reducible repeat (first | refine blk_drewN ?_ _ | refine blk_drew ?_ | refine blk_alloc ?_ _)); exact BK102.out) hb); have n2_ := Aside0.mk (blk_below (g := gb103) (o := .cells pxA28_ 32 (0, 0)) (by (with_reducible repeat (first | refine blk_drewN ?_ _ | refine blk_drew ?_ | refine blk_alloc ?_ _)); refine blk_far ?_ NB103_104.out _; (with_reducible repeat (first | refine blk_drewN ?_ _ | refine blk_drew ?_ | refine blk_alloc ?_ _)); refine blk_far ?_ NB103_104.out _; (with_reducible repeat (first | refine blk_drewN ?_ _ | refine blk_drew ?_ | refine blk_alloc ?_ _)); refine blk_far ?_ NB103_104.out _; (with_reducible repeat (first | refine blk_drewN ?_ _ | refine blk_drew ?_ | refine blk_alloc ?_ _)); refine blk_far ?_ NB103_104.out _; (with_reducible repeat (first | refine blk_drewN ?_ _ | refine blk_drew ?_ | refine blk_alloc ?_ _)); refine blk_far ?_ NB103_104.out _; (with_reducible repeat (first | refine blk_drewN ?_ _ | refine blk_drew ?_ | refine blk_alloc ?_ _)); refine blk_far ?_ NB103_104.out _; (with_reducible repeat (first | refine blk_drewN ?_ _ | refine blk_drew ?_ | refine blk_alloc ?_ _)); refine blk_far ?_ NB103_104.out _; (with_reducible repeat (first | refine blk_drewN ?_ _ | refine blk_drew ?_ | refine blk_alloc ?_ _)); refine blk_far ?_ NB103_104.out _; (with_reducible repeat (first | refine blk_drewN ?_ _ | refine blk_drew ?_ | refine blk_alloc ?_ _)); refine blk_far ?_ NB103_104.out _; (with_reducible repeat (first | refine blk_drewN ?_ _ | refine blk_drew ?_ | refine blk_alloc ?_ _)); refine blk_far ?_ NB103_104.out _; (with_reducible repeat (first | refine blk_drewN ?_ _ | refine blk_drew ?_ | refine blk_alloc ?_ _)); refine blk_far ?_ NB103_104.out _; (with_reducible repeat (first | refine blk_drewN ?_ _ | refine blk_drew ?_ | refine blk_alloc ?_ _)); exact BK103.out) hb); have n3_ := Aside0.mk (blk_below (g := gb104) (o := .cells pxA33_ 37 (0, 0)) (by (with_reducible repeat (first | refine blk_drewN ?_ _ | refine blk_drew ?_ | refine blk_alloc ?_ _)); refine blk_put (cs := pxA39_) ?_ 10 _ rfl; (with_reducible repeat (first | refine blk_drewN ?_ _ | refine blk_drew ?_ | refine blk_alloc ?_ _)); refine blk_put (cs := pxA35_) ?_ 9 _ rfl; (with_reducible repeat (first | refine blk_drewN ?_ _ | refine blk_drew ?_ | refine blk_alloc ?_ _)); refine blk_put (cs := pxA36_) ?_ 8 _ rfl; (with_reducible repeat (first | refine blk_drewN ?_ _ | refine blk_drew ?_ | refine blk_alloc ?_ _)); refine blk_put (cs := pxA37_) ?_ 7 _ rfl; (with_reducible repeat (first | refine blk_drewN ?_ _ | refine blk_drew ?_ | refine blk_alloc ?_ _)); refine blk_put (cs := pxA38_) ?_ 6 _ rfl; (with_reducible repeat (first | refine blk_drewN ?_ _ | refine blk_drew ?_ | refine blk_alloc ?_ _)); refine blk_put (cs := pxA40_) ?_ 5 _ rfl; (with_reducible repeat (first | refine blk_drewN ?_ _ | refine blk_drew ?_ | refine blk_alloc ?_ _)); refine blk_put (cs := pxA41_) ?_ 4 _ rfl; (with_reducible repeat (first | refine blk_drewN ?_ _ | refine blk_drew ?_ | refine blk_alloc ?_ _)); refine blk_put (cs := pxA42_) ?_ 3 _ rfl; (with_reducible repeat (first | refine blk_drewN ?_ _ | refine blk_drew ?_ | refine blk_alloc ?_ _)); refine blk_put (cs := pxA43_) ?_ 2 _ rfl; (with_reducible repeat (first | refine blk_drewN ?_ _ | refine blk_drew ?_ | refine blk_alloc ?_ _)); refine blk_put (cs := pxA44_) ?_ 1 _ rfl; (with_reducible repeat (first | refine blk_drewN ?_ _ | refine blk_drew ?_ | refine blk_alloc ?_ _)); refine blk_put (cs := pxA45_) ?_ 0 _ rfl; (with_reducible repeat (first | refine blk_drewN ?_ _ | refine blk_drew ?_ | refine blk_alloc ?_ _)); exact BK104.out) hb); have n4_ := Aside0.mk (below_step (by repeat (first | (with_reducible first | exact HB.out | apply below_alloc | apply pw_below_drewN | apply below_drew1 | refine below_set ?_ GE101.out | refine below_set ?_ GE102.out | refine below_set ?_ GE103.out | refine below_set ?_ GE104.out) | exact HB.out)) hb); have n5_ := Aside0.mk (hbox); have n6_ := Aside0.mk ((by rw [hg]; exact (below_size (by repeat (first | (with_reducible first | exact HB.out | apply below_alloc | apply pw_below_drewN | apply below_drew1 | refine below_set ?_ GE101.out | refine below_set ?_ GE102.out | refine below_set ?_ GE103.out | refine below_set ?_ GE104.out) | exact HB.out))) : w.heap.size ≤ gb105)); have n7_ := Aside0.mk ((by rw [hg]; exact (below_size (by repeat (first | (with_reducible first | exact HB.out | apply below_alloc | apply pw_below_drewN | apply below_drew1 | refine below_set ?_ GE101.out | refine below_set ?_ GE102.out | refine below_set ?_ GE103.out | refine below_set ?_ GE104.out) | exact HB.out))) : w.heap.size ≤ gb105)); have n8_ := Aside0.mk ((by rw [hg]; exact Nat.ne_of_lt (blk_lt (g := gb101) (o := .cells pxA1_ 39 (0, 0)) (by (with_reducible repeat (first | refine blk_drewN ?_ _ | refine blk_drew ?_ | refine blk_alloc ?_ _)); refine blk_far ?_ NB101_104.out _; (with_reducible repeat (first | refine blk_drewN ?_ _ | refine blk_drew ?_ | refine blk_alloc ?_ _)); refine blk_far ?_ NB101_104.out _; (with_reducible repeat (first | refine blk_drewN ?_ _ | refine blk_drew ?_ | refine blk_alloc ?_ _)); refine blk_far ?_ NB101_104.out _; (with_reducible repeat (first | refine blk_drewN ?_ _ | refine blk_drew ?_ | refine blk_alloc ?_ _)); refine blk_far ?_ NB101_104.out _; (with_reducible repeat (first | refine blk_drewN ?_ _ | refine blk_drew ?_ | refine blk_alloc ?_ _)); refine blk_far ?_ NB101_104.out _; (with_reducible repeat (first | refine blk_drewN ?_ _ | refine blk_drew ?_ | refine blk_alloc ?_ _)); refine blk_far ?_ NB101_104.out _; (with_reducible repeat (first | refine blk_drewN ?_ _ | refine blk_drew ?_ | refine blk_alloc ?_ _)); refine blk_far ?_ NB101_104.out _; (with_reducible repeat (first | refine blk_drewN ?_ _ | refine blk_drew ?_ | refine blk_alloc ?_ _)); refine blk_far ?_ NB101_104.out _; (with_reducible repeat (first | refine blk_drewN ?_ _ | refine blk_drew ?_ | refine blk_alloc ?_ _)); refine blk_far ?_ NB101_104.out _; (with_reducible repeat (first | refine blk_drewN ?_ _ | refine blk_drew ?_ | refine blk_alloc ?_ _)); refine blk_far ?_ NB101_104.out _; (with_reducible repeat (first | refine blk_drewN ?_ _ | refine blk_drew ?_ | refine blk_alloc ?_ _)); refine blk_far ?_ NB101_104.out _; (with_reducible repeat (first | refine blk_drewN ?_ _ | refine blk_drew ?_ | refine blk_alloc ?_ _)); exact BK101.out)) : gb101 ≠ gb105)); have n9_ := Aside0.mk ((by rw [hg]; exact Nat.ne_of_gt (blk_lt (g := gb101) (o := .cells pxA1_ 39 (0, 0)) (by (with_reducible repeat (first | refine blk_drewN ?_ _ | refine blk_drew ?_ | refine blk_alloc ?_ _)); refine blk_far ?_ NB101_104.out _; (with_reducible repeat (first | refine blk_drewN ?_ _ | refine blk_drew ?_ | refine blk_alloc ?_ _)); refine blk_far ?_ NB101_104.out _; (with_reducible repeat (first | refine blk_drewN ?_ _ | refine blk_drew ?_ | refine blk_alloc ?_ _)); refine blk_far ?_ NB101_104.out _; (with_reducible repeat (first | refine blk_drewN ?_ _ | refine blk_drew ?_ | refine blk_alloc ?_ _)); refine blk_far ?_ NB101_104.out _; (with_reducible repeat (first | refine blk_drewN ?_ _ | refine blk_drew ?_ | refine blk_alloc ?_ _)); refine blk_far ?_ NB101_104.out _; (with_reducible repeat (first | refine blk_drewN ?_ _ | refine blk_drew ?_ | refine blk_alloc ?_ _)); refine blk_far ?_ NB101_104.out _; (with_reducible repeat (first | refine blk_drewN ?_ _ | refine blk_drew ?_ | refine blk_alloc ?_ _)); refine blk_far ?_ NB101_104.out _; (with_reducible repeat (first | refine blk_drewN ?_ _ | refine blk_drew ?_ | refine blk_alloc ?_ _)); refine blk_far ?_ NB101_104.out _; (with_reducible repeat (first | refine blk_drewN ?_ _ | refine blk_drew ?_ | refine blk_alloc ?_ _)); refine blk_far ?_ NB101_104.out _; (with_reducible repeat (first | refine blk_drewN ?_ _ | refine blk_drew ?_ | refine blk_alloc ?_ _)); refine blk_far ?_ NB101_104.out _; (with_reducible repeat (first | refine blk_drewN ?_ _ | refine blk_drew ?_ | refine blk_alloc ?_ _)); refine blk_far ?_ NB101_104.out _; (with_reducible repeat (first | refine blk_drewN ?_ _ | refine blk_drew ?_ | refine blk_alloc ?_ _)); exact BK101.out)) : gb105 ≠ gb101)); have n10_ := Aside0.mk ((by rw [hg]; exact Nat.ne_of_lt (blk_lt (g := gb102) (o := .cells pxA30_ 32 (0, 0)) (by (with_reducible repeat (first | refine blk_drewN ?_ _ | refine blk_drew ?_ | refine blk_alloc ?_ _)); refine blk_far ?_ NB102_104.out _; (with_reducible repeat (first | refine blk_drewN ?_ _ | refine blk_drew ?_ | refine blk_alloc ?_ _)); refine blk_far ?_ NB102_104.out _; (with_reducible repeat (first | refine blk_drewN ?_ _ | refine blk_drew ?_ | refine blk_alloc ?_ _)); refine blk_far ?_ NB102_104.out _; (with_reducible repeat (first | refine blk_drewN ?_ _ | refine blk_drew ?_ | refine blk_alloc ?_ _)); refine blk_far ?_ NB102_104.out _; (with_reducible repeat (first | refine blk_drewN ?_ _ | refine blk_drew ?_ | refine blk_alloc ?_ _)); refine blk_far ?_ NB102_104.out _; (with_reducible repeat (first | refine blk_drewN ?_ _ | refine blk_drew ?_ | refine blk_alloc ?_ _)); refine blk_far ?_ NB102_104.out _; (with_reducible repeat (first | refine blk_drewN ?_ _ | refine blk_drew ?_ | refine blk_alloc ?_ _)); refine blk_far ?_ NB102_104.out _; (with_reducible repeat (first | refine blk_drewN ?_ _ | refine blk_drew ?_ | refine blk_alloc ?_ _)); refine blk_far ?_ NB102_104.out _; (with_reducible repeat (first | refine blk_drewN ?_ _ | refine blk_drew ?_ | refine blk_alloc ?_ _)); refine blk_far ?_ NB102_104.out _; (with_reducible repeat (first | refine blk_drewN ?_ _ | refine blk_drew ?_ | refine blk_alloc ?_ _)); refine blk_far ?_ NB102_104.out _; (with_reducible repeat (first | refine blk_drewN ?_ _ | refine blk_drew ?_ | refine blk_alloc ?_ _)); refine blk_far ?_ NB102_104.out _; (with_reducible repeat (first | refine blk_drewN ?_ _ | refine blk_drew ?_ | refine blk_alloc ?_ _)); exact BK102.out)) : gb102 ≠ gb105)); have n11_ := Aside0.mk ((by rw [hg]; exact Nat.ne_of_gt (blk_lt (g := gb102) (o := .cells pxA30_ 32 (0, 0)) (by (with_reducible repeat (first | refine blk_drewN ?_ _ | refine blk_drew ?_ | refine blk_alloc ?_ _)); refine blk_far ?_ NB102_104.out _; (with_reducible repeat (first | refine blk_drewN ?_ _ | refine blk_drew ?_ | refine blk_alloc ?_ _)); refine blk_far ?_ NB102_104.out _; (with_reducible repeat (first | refine blk_drewN ?_ _ | refine blk_drew ?_ | refine blk_alloc ?_ _)); refine blk_far ?_ NB102_104.out _; (with_reducible repeat (first | refine blk_drewN ?_ _ | refine blk_drew ?_ | refine blk_alloc ?_ _)); refine blk_far ?_ NB102_104.out _; (with_reducible repeat (first | refine blk_drewN ?_ _ | refine blk_drew ?_ | refine blk_alloc ?_ _)); refine blk_far ?_ NB102_104.out _; (with_reducible repeat (first | refine blk_drewN ?_ _ | refine blk_drew ?_ | refine blk_alloc ?_ _)); refine blk_far ?_ NB102_104.out _; (with_reducible repeat (first | refine blk_drewN ?_ _ | refine blk_drew ?_ | refine blk_alloc ?_ _)); refine blk_far ?_ NB102_104.out _; (with_reducible repeat (first | refine blk_drewN ?_ _ | refine blk_drew ?_ | refine blk_alloc ?_ _)); refine blk_far ?_ NB102_104.out _; (with_reducible repeat (first | refine blk_drewN ?_ _ | refine blk_drew ?_ | refine blk_alloc ?_ _)); refine blk_far ?_ NB102_104.out _; (with_reducible repeat (first | refine blk_drewN ?_ _ | refine blk_drew ?_ | refine blk_alloc ?_ _)); refine blk_far ?_ NB102_104.out _; (with_reducible repeat (first | refine blk_drewN ?_ _ | refine blk_drew ?_ | refine blk_alloc ?_ _)); refine blk_far ?_ NB102_104.out _; (with_reducible repeat (first | refine blk_drewN ?_ _ | refine blk_drew ?_ | refine blk_alloc ?_ _)); exact BK102.out)) : gb105 ≠ gb102)); have n12_ := Aside0.mk ((by rw [hg]; exact Nat.ne_of_lt (blk_lt (g := gb103) (o := .cells pxA28_ 32 (0, 0)) (by (with_reducible repeat (first | refine blk_drewN ?_ _ | refine blk_drew ?_ | refine blk_alloc ?_ _)); refine blk_far ?_ NB103_104.out _; (with_reducible repeat (first | refine blk_drewN ?_ _ | refine blk_drew ?_ | refine blk_alloc ?_ _)); refine blk_far ?_ NB103_104.out _; (with_reducible repeat (first | refine blk_drewN ?_ _ | refine blk_drew ?_ | refine blk_alloc ?_ _)); refine blk_far ?_ NB103_104.out _; (with_reducible repeat (first | refine blk_drewN ?_ _ | refine blk_drew ?_ | refine blk_alloc ?_ _)); refine blk_far ?_ NB103_104.out _; (with_reducible repeat (first | refine blk_drewN ?_ _ | refine blk_drew ?_ | refine blk_alloc ?_ _)); refine blk_far ?_ NB103_104.out _; (with_reducible repeat (first | refine blk_drewN ?_ _ | refine blk_drew ?_ | refine blk_alloc ?_ _)); refine blk_far ?_ NB103_104.out _; (with_reducible repeat (first | refine blk_drewN ?_ _ | refine blk_drew ?_ | refine blk_alloc ?_ _)); refine blk_far ?_ NB103_104.out _; (with_reducible repeat (first | refine blk_drewN ?_ _ | refine blk_drew ?_ | refine blk_alloc ?_ _)); refine blk_far ?_ NB103_104.out _; (with_reducible repeat (first | refine blk_drewN ?_ _ | refine blk_drew ?_ | refine blk_alloc ?_ _)); refine blk_far ?_ NB103_104.out _; (with_reducible repeat (first | refine blk_drewN ?_ _ | refine blk_drew ?_ | refine blk_alloc ?_ _)); refine blk_far ?_ NB103_104.out _; (with_reducible repeat (first | refine blk_drewN ?_ _ | refine blk_drew ?_ | refine blk_alloc ?_ _)); refine blk_far ?_ NB103_104.out _; (with_reducible repeat (first | refine blk_drewN ?_ _ | refine blk_drew ?_ | refine blk_alloc ?_ _)); exact BK103.out)) : gb103 ≠ gb105)); have n13_ := Aside0.mk ((by rw [hg]; exact Nat.ne_of_gt (blk_lt (g := gb103) (o := .cells pxA28_ 32 (0, 0)) (by (with_reducible repeat (first | refine blk_drewN ?_ _ | refine blk_drew ?_ | refine blk_alloc ?_ _)); refine blk_far ?_ NB103_104.out _; (with_reducible repeat (first | refine blk_drewN ?_ _ | refine blk_drew ?_ | refine blk_alloc ?_ _)); refine blk_far ?_ NB103_104.out _; (with_reducible repeat (first | refine blk_drewN ?_ _ | refine blk_drew ?_ | refine blk_alloc ?_ _)); refine blk_far ?_ NB103_104.out _; (with_reducible repeat (first | refine blk_drewN ?_ _ | refine blk_drew ?_ | refine blk_alloc ?_ _)); refine blk_far ?_ NB103_104.out _; (with_reducible repeat (first | refine blk_drewN ?_ _ | refine blk_drew ?_ | refine blk_alloc ?_ _)); refine blk_far ?_ NB103_104.out _; (with_reducible repeat (first | refine blk_drewN ?_ _ | refine blk_drew ?_ | refine blk_alloc ?_ _)); refine blk_far ?_ NB103_104.out _; (with_reducible repeat (first | refine blk_drewN ?_ _ | refine blk_drew ?_ | refine blk_alloc ?_ _)); refine blk_far ?_ NB103_104.out _; (with_reducible repeat (first | refine blk_drewN ?_ _ | refine blk_drew ?_ | refine blk_alloc ?_ _)); refine blk_far ?_ NB103_104.out _; (with_reducible repeat (first | refine blk_drewN ?_ _ | refine blk_drew ?_ | refine blk_alloc ?_ _)); refine blk_far ?_ NB103_104.out _; (with_reducible repeat (first | refine blk_drewN ?_ _ | refine blk_drew ?_ | refine blk_alloc ?_ _)); refine blk_far ?_ NB103_104.out _; (with_reducible repeat (first | refine blk_drewN ?_ _ | refine blk_drew ?_ | refine blk_alloc ?_ _)); refine blk_far ?_ NB103_104.out _; (with_reducible repeat (first | refine blk_drewN ?_ _ | refine blk_drew ?_ | refine blk_alloc ?_ _)); exact BK103.out)) : gb105 ≠ gb103)); have n14_ := Aside0.mk ((by rw [hg]; exact Nat.ne_of_lt (blk_lt (g := gb104) (o := .cells pxA33_ 37 (0, 0)) (by (with_reducible repeat (first | refine blk_drewN ?_ _ | refine blk_drew ?_ | refine blk_alloc ?_ _)); refine blk_put (cs := pxA39_) ?_ 10 _ rfl; (with_reducible repeat (first | refine blk_drewN ?_ _ | refine blk_drew ?_ | refine blk_alloc ?_ _)); refine blk_put (cs := pxA35_) ?_ 9 _ rfl; (with_reducible repeat (first | refine blk_drewN ?_ _ | refine blk_drew ?_ | refine blk_alloc ?_ _)); refine blk_put (cs := pxA36_) ?_ 8 _ rfl; (with_reducible repeat (first | refine blk_drewN ?_ _ | refine blk_drew ?_ | refine blk_alloc ?_ _)); refine blk_put (cs := pxA37_) ?_ 7 _ rfl; (with_reducible repeat (first | refine blk_drewN ?_ _ | refine blk_drew ?_ | refine blk_alloc ?_ _)); refine blk_put (cs := pxA38_) ?_ 6 _ rfl; (with_reducible repeat (first | refine blk_drewN ?_ _ | refine blk_drew ?_ | refine blk_alloc ?_ _)); refine blk_put (cs := pxA40_) ?_ 5 _ rfl; (with_reducible repeat (first | refine blk_drewN ?_ _ | refine blk_drew ?_ | refine blk_alloc ?_ _)); refine blk_put (cs := pxA41_) ?_ 4 _ rfl; (with_reducible repeat (first | refine blk_drewN ?_ _ | refine blk_drew ?_ | refine blk_alloc ?_ _)); refine blk_put (cs := pxA42_) ?_ 3 _ rfl; (with_reducible repeat (first | refine blk_drewN ?_ _ | refine blk_drew ?_ | refine blk_alloc ?_ _)); refine blk_put (cs := pxA43_) ?_ 2 _ rfl; (with_reducible repeat (first | refine blk_drewN ?_ _ | refine blk_drew ?_ | refine blk_alloc ?_ _)); refine blk_put (cs := pxA44_) ?_ 1 _ rfl; (with_reducible repeat (first | refine blk_drewN ?_ _ | refine blk_drew ?_ | refine blk_alloc ?_ _)); refine blk_put (cs := pxA45_) ?_ 0 _ rfl; (with_reducible repeat (first | refine blk_drewN ?_ _ | refine blk_drew ?_ | refine blk_alloc ?_ _)); exact BK104.out)) : gb104 ≠ gb105)); have n15_ := Aside0.mk ((by rw [hg]; exact Nat.ne_of_gt (blk_lt (g := gb104) (o := .cells pxA33_ 37 (0, 0)) (by (with_reducible repeat (first | refine blk_drewN ?_ _ | refine blk_drew ?_ | refine blk_alloc ?_ _)); refine blk_put (cs := pxA39_) ?_ 10 _ rfl; (with_reducible repeat (first | refine blk_drewN ?_ _ | refine blk_drew ?_ | refine blk_alloc ?_ _)); refine blk_put (cs := pxA35_) ?_ 9 _ rfl; (with_reducible repeat (first | refine blk_drewN ?_ _ | refine blk_drew ?_ | refine blk_alloc ?_ _)); refine blk_put (cs := pxA36_) ?_ 8 _ rfl; (with_reducible repeat (first | refine blk_drewN ?_ _ | refine blk_drew ?_ | refine blk_alloc ?_ _)); refine blk_put (cs := pxA37_) ?_ 7 _ rfl; (with_reducible repeat (first | refine blk_drewN ?_ _ | refine blk_drew ?_ | refine blk_alloc ?_ _)); refine blk_put (cs := pxA38_) ?_ 6 _ rfl; (with_reducible repeat (first | refine blk_drewN ?_ _ | refine blk_drew ?_ | refine blk_alloc ?_ _)); refine blk_put (cs := pxA40_) ?_ 5 _ rfl; (with_reducible repeat (first | refine blk_drewN ?_ _ | refine blk_drew ?_ | refine blk_alloc ?_ _)); refine blk_put (cs := pxA41_) ?_ 4 _ rfl; (with_reducible repeat (first | refine blk_drewN ?_ _ | refine blk_drew ?_ | refine blk_alloc ?_ _)); refine blk_put (cs := pxA42_) ?_ 3 _ rfl; (with_reducible repeat (first | refine blk_drewN ?_ _ | refine blk_drew ?_ | refine blk_alloc ?_ _)); refine blk_put (cs := pxA43_) ?_ 2 _ rfl; (with_reducible repeat (first | refine blk_drewN ?_ _ | refine blk_drew ?_ | refine blk_alloc ?_ _)); refine blk_put (cs := pxA44_) ?_ 1 _ rfl; (with_reducible repeat (first | refine blk_drewN ?_ _ | refine blk_drew ?_ | refine blk_alloc ?_ _)); refine blk_put (cs := pxA45_) ?_ 0 _ rfl; (with_reducible repeat (first | refine blk_drewN ?_ _ | refine blk_drew ?_ | refine blk_alloc ?_ _)); exact BK104.out)) : gb105 ≠ gb104)); clear BK101; clear BK102; clear BK103; clear BK104; clear HB; have BK101 := n0_; have BK102 := n1_; have BK103 := n2_; have BK104 := n3_; have HB := n4_; have BK105 := n5_; have GW105 := n6_; have GE105 := n7_; have NB101_105 := n8_; have NB105_101 := n9_; have NB102_105 := n10_; have NB105_102 := n11_; have NB103_105 := n12_; have NB105_103 := n13_; have NB104_105 := n14_; have NB105_104 := n15_; clear n0_ n1_ n2_ n3_ n4_ n5_ n6_ n7_ n8_ n9_ n10_ n11_ n12_ n13_ n14_ n15_; clear hb hbox hg; have hnb22 := NB105_101.out; have hnc22 := NB101_105.out; have hnb23 := NB105_102.out; have hnc23 := NB102_105.out; have hnb24 := NB105_103.out; have hnc24 := NB103_105.out; have hnb25 := NB105_104.out; have hnc25 := NB104_105.out; pxh_ hcz26_0 w21 gb105 0 (.int .i64 0) BK105; pxh_ hcz26_1 w21 gb105 1 (.int .i64 0) BK105; pxh_ hcz26_2 w21 gb105 2 (.int .i64 0) BK105; pxh_ hcz26_3 w21 gb105 3 (.int .i64 0) BK105; pxh_ hcz26_4 w21 gb105 4 (.int .i64 0) BK105; pxh_ hcz26_5 w21 gb105 5 (.int .i64 0) BK105; pxh_ hcz26_6 w21 gb105 6 (.int .i64 0) BK105; pxh_ hcz26_7 w21 gb105 7 (.int .i64 0) BK105; pxh_ hcz26_8 w21 gb105 8 (.int .i64 0) BK105; pxh_ hcz26_9 w21 gb105 9 (.string (⟨#[]⟩ : ByteArray)) BK105; pxh_ hcz26_10 w21 gb105 10 (.slice none 0 0) BK105; pxf_ hfz26_0 BK105 0; pxf_ hfz26_1 BK105 1; pxf_ hfz26_2 BK105 2; pxf_ hfz26_3 BK105 3; pxf_ hfz26_4 BK105 4; pxf_ hfz26_5 BK105 5; pxf_ hfz26_6 BK105 6; pxf_ hfz26_7 BK105 7; pxf_ hfz26_8 BK105 8; pxf_ hfz26_9 BK105 9; pxf_ hfz26_10 BK105 10) | ((with_reducible refine gate_callee (f := 10) rfl ?_); refine goesL_ (some 20) rfl rfl Try.func10 (by kernel_rfl) rfl #[] rfl (by (try simp only [List.map_toArray, List.map_cons, List.map_nil]); first | done | rfl | (simp only [List.length_drop, List.length_take]; rfl)) ?_; (with_reducible refine (copyholdlaw15_shown.calls  t106 _ A2.out).mono ?_); rintro e w27 ⟨rfl, hb⟩; refine ⟨_, rfl, ?_⟩; have n0_ := Aside0.mk (blk_below (g := gb101) (o := .cells pxA1_ 39 (0, 0)) (by (with_reducible repeat (first | refine blk_drewN ?_ _ | refine blk_drew ?_ | refine blk_alloc ?_ _)); refine blk_far ?_ NB101_105.out _; (with_reducible repeat (first | refine blk_drewN ?_ _ | refine blk_drew ?_ | refine blk_alloc ?_ _)); refine blk_far ?_ NB101_105.out _; (with_reducible repeat (first | refine blk_drewN ?_ _ | refine blk_drew ?_ | refine blk_alloc ?_ _)); refine blk_far ?_ NB101_105.out _; (with_reducible repeat (first | refine blk_drewN ?_ _ | refine blk_drew ?_ | refine blk_alloc ?_ _)); refine blk_far ?_ NB101_105.out _; (with_reducible repeat (first | refine blk_drewN ?_ _ | refine blk_drew ?_ | refine blk_alloc ?_ _)); refine blk_far ?_ NB101_105.out _; (with_reducible repeat (first | refine blk_drewN ?_ _ | refine blk_drew ?_ | refine blk_alloc ?_ _)); refine blk_far ?_ NB101_105.out _; (with_reducible repeat (first | refine blk_drewN ?_ _ | refine blk_drew ?_ | refine blk_alloc ?_ _)); refine blk_far ?_ NB101_105.out _; (with_reducible repeat (first | refine blk_drewN ?_ _ | refine blk_drew ?_ | refine blk_alloc ?_ _)); refine blk_far ?_ NB101_105.out _; (with_reducible repeat (first | refine blk_drewN ?_ _ | refine blk_drew ?_ | refine blk_alloc ?_ _)); refine blk_far ?_ NB101_105.out _; (with_reducible repeat (first | refine blk_drewN ?_ _ | refine blk_drew ?_ | refine blk_alloc ?_ _)); refine blk_far ?_ NB101_105.out _; (with_reducible repeat (first | refine blk_drewN ?_ _ | refine blk_drew ?_ | refine blk_alloc ?_ _)); refine blk_far ?_ NB101_105.out _; (with_reducible repeat (first | refine blk_drewN ?_ _ | refine blk_drew ?_ | refine blk_alloc ?_ _)); exact BK101.out) hb); have n1_ := Aside0.mk (blk_below (g := gb102) (o := .cells pxA30_ 32 (0, 0)) (by (with_reducible repeat (first | refine blk_drewN ?_ _ | refine blk_drew ?_ | refine blk_alloc ?_ _)); refine blk_far ?_ NB102_105.out _; (with_reducible repeat (first | refine blk_drewN ?_ _ | refine blk_drew ?_ | refine blk_alloc ?_ _)); refine blk_far ?_ NB102_105.out _; (with_reducible repeat (first | refine blk_drewN ?_ _ | refine blk_drew ?_ | refine blk_alloc ?_ _)); refine blk_far ?_ NB102_105.out _; (with_reducible repeat (first | refine blk_drewN ?_ _ | refine blk_drew ?_ | refine blk_alloc ?_ _)); refine blk_far ?_ NB102_105.out _; (with_reducible repeat (first | refine blk_drewN ?_ _ | refine blk_drew ?_ | refine blk_alloc ?_ _)); refine blk_far ?_ NB102_105.out _; (with_reducible repeat (first | refine blk_drewN ?_ _ | refine blk_drew ?_ | refine blk_alloc ?_ _)); refine blk_far ?_ NB102_105.out _; (with_reducible repeat (first | refine blk_drewN ?_ _ | refine blk_drew ?_ | refine blk_alloc ?_ _)); refine blk_far ?_ NB102_105.out _; (with_reducible repeat (first | refine blk_drewN ?_ _ | refine blk_drew ?_ | refine blk_alloc ?_ _)); refine blk_far ?_ NB102_105.out _; (with_reducible repeat (first | refine blk_drewN ?_ _ | refine blk_drew ?_ | refine blk_alloc ?_ _)); refine blk_far ?_ NB102_105.out _; (with_reducible repeat (first | refine blk_drewN ?_ _ | refine blk_drew ?_ | refine blk_alloc ?_ _)); refine blk_far ?_ NB102_105.out _; (with_reducible repeat (first | refine blk_drewN ?_ _ | refine blk_drew ?_ | refine blk_alloc ?_ _)); refine blk_far ?_ NB102_105.out _; (with_reducible repeat (first | refine blk_drewN ?_ _ | refine blk_drew ?_ | refine blk_alloc ?_ _)); exact BK102.out) hb); have n2_ := Aside0.mk (blk_below (g := gb103) (o := .cells pxA28_ 32 (0, 0)) (by (with_reducible repeat (first | refine blk_drewN ?_ _ | refine blk_drew ?_ | refine blk_alloc ?_ _)); refine blk_far ?_ NB103_105.out _; (with_reducible repeat (first | refine blk_drewN ?_ _ | refine blk_drew ?_ | refine blk_alloc ?_ _)); refine blk_far ?_ NB103_105.out _; (with_reducible repeat (first | refine blk_drewN ?_ _ | refine blk_drew ?_ | refine blk_alloc ?_ _)); refine blk_far ?_ NB103_105.out _; (with_reducible repeat (first | refine blk_drewN ?_ _ | refine blk_drew ?_ | refine blk_alloc ?_ _)); refine blk_far ?_ NB103_105.out _; (with_reducible repeat (first | refine blk_drewN ?_ _ | refine blk_drew ?_ | refine blk_alloc ?_ _)); refine blk_far ?_ NB103_105.out _; (with_reducible repeat (first | refine blk_drewN ?_ _ | refine blk_drew ?_ | refine blk_alloc ?_ _)); refine blk_far ?_ NB103_105.out _; (with_reducible repeat (first | refine blk_drewN ?_ _ | refine blk_drew ?_ | refine blk_alloc ?_ _)); refine blk_far ?_ NB103_105.out _; (with_reducible repeat (first | refine blk_drewN ?_ _ | refine blk_drew ?_ | refine blk_alloc ?_ _)); refine blk_far ?_ NB103_105.out _; (with_reducible repeat (first | refine blk_drewN ?_ _ | refine blk_drew ?_ | refine blk_alloc ?_ _)); refine blk_far ?_ NB103_105.out _; (with_reducible repeat (first | refine blk_drewN ?_ _ | refine blk_drew ?_ | refine blk_alloc ?_ _)); refine blk_far ?_ NB103_105.out _; (with_reducible repeat (first | refine blk_drewN ?_ _ | refine blk_drew ?_ | refine blk_alloc ?_ _)); refine blk_far ?_ NB103_105.out _; (with_reducible repeat (first | refine blk_drewN ?_ _ | refine blk_drew ?_ | refine blk_alloc ?_ _)); exact BK103.out) hb); have n3_ := Aside0.mk (blk_below (g := gb104) (o := .cells pxA33_ 37 (0, 0)) (by (with_reducible repeat (first | refine blk_drewN ?_ _ | refine blk_drew ?_ | refine blk_alloc ?_ _)); refine blk_far ?_ NB104_105.out _; (with_reducible repeat (first | refine blk_drewN ?_ _ | refine blk_drew ?_ | refine blk_alloc ?_ _)); refine blk_far ?_ NB104_105.out _; (with_reducible repeat (first | refine blk_drewN ?_ _ | refine blk_drew ?_ | refine blk_alloc ?_ _)); refine blk_far ?_ NB104_105.out _; (with_reducible repeat (first | refine blk_drewN ?_ _ | refine blk_drew ?_ | refine blk_alloc ?_ _)); refine blk_far ?_ NB104_105.out _; (with_reducible repeat (first | refine blk_drewN ?_ _ | refine blk_drew ?_ | refine blk_alloc ?_ _)); refine blk_far ?_ NB104_105.out _; (with_reducible repeat (first | refine blk_drewN ?_ _ | refine blk_drew ?_ | refine blk_alloc ?_ _)); refine blk_far ?_ NB104_105.out _; (with_reducible repeat (first | refine blk_drewN ?_ _ | refine blk_drew ?_ | refine blk_alloc ?_ _)); refine blk_far ?_ NB104_105.out _; (with_reducible repeat (first | refine blk_drewN ?_ _ | refine blk_drew ?_ | refine blk_alloc ?_ _)); refine blk_far ?_ NB104_105.out _; (with_reducible repeat (first | refine blk_drewN ?_ _ | refine blk_drew ?_ | refine blk_alloc ?_ _)); refine blk_far ?_ NB104_105.out _; (with_reducible repeat (first | refine blk_drewN ?_ _ | refine blk_drew ?_ | refine blk_alloc ?_ _)); refine blk_far ?_ NB104_105.out _; (with_reducible repeat (first | refine blk_drewN ?_ _ | refine blk_drew ?_ | refine blk_alloc ?_ _)); refine blk_far ?_ NB104_105.out _; (with_reducible repeat (first | refine blk_drewN ?_ _ | refine blk_drew ?_ | refine blk_alloc ?_ _)); exact BK104.out) hb); have n4_ := Aside0.mk (blk_below (g := gb105) (o := .cells pxA34_ 37 (0, 0)) (by (with_reducible repeat (first | refine blk_drewN ?_ _ | refine blk_drew ?_ | refine blk_alloc ?_ _)); refine blk_put (cs := #[.int .i64 a0_39, .int .i64 a0_40, .int .i64 a0_41, .int .i64 a0_42, .int .i64 a0_43, .int .i64 a0_44, .int .i64 a0_45, .int .i64 a0_46, .int .i64 a0_47, .string a0_48, .slice none 0 0]) ?_ 10 _ rfl; (with_reducible repeat (first | refine blk_drewN ?_ _ | refine blk_drew ?_ | refine blk_alloc ?_ _)); refine blk_put (cs := #[.int .i64 a0_39, .int .i64 a0_40, .int .i64 a0_41, .int .i64 a0_42, .int .i64 a0_43, .int .i64 a0_44, .int .i64 a0_45, .int .i64 a0_46, .int .i64 a0_47, .string (⟨#[]⟩ : ByteArray), .slice none 0 0]) ?_ 9 _ rfl; (with_reducible repeat (first | refine blk_drewN ?_ _ | refine blk_drew ?_ | refine blk_alloc ?_ _)); refine blk_put (cs := #[.int .i64 a0_39, .int .i64 a0_40, .int .i64 a0_41, .int .i64 a0_42, .int .i64 a0_43, .int .i64 a0_44, .int .i64 a0_45, .int .i64 a0_46, .int .i64 0, .string (⟨#[]⟩ : ByteArray), .slice none 0 0]) ?_ 8 _ rfl; (with_reducible repeat (first | refine blk_drewN ?_ _ | refine blk_drew ?_ | refine blk_alloc ?_ _)); refine blk_put (cs := #[.int .i64 a0_39, .int .i64 a0_40, .int .i64 a0_41, .int .i64 a0_42, .int .i64 a0_43, .int .i64 a0_44, .int .i64 a0_45, .int .i64 0, .int .i64 0, .string (⟨#[]⟩ : ByteArray), .slice none 0 0]) ?_ 7 _ rfl; (with_reducible repeat (first | refine blk_drewN ?_ _ | refine blk_drew ?_ | refine blk_alloc ?_ _)); refine blk_put (cs := #[.int .i64 a0_39, .int .i64 a0_40, .int .i64 a0_41, .int .i64 a0_42, .int .i64 a0_43, .int .i64 a0_44, .int .i64 0, .int .i64 0, .int .i64 0, .string (⟨#[]⟩ : ByteArray), .slice none 0 0]) ?_ 6 _ rfl; (with_reducible repeat (first | refine blk_drewN ?_ _ | refine blk_drew ?_ | refine blk_alloc ?_ _)); refine blk_put (cs := #[.int .i64 a0_39, .int .i64 a0_40, .int .i64 a0_41, .int .i64 a0_42, .int .i64 a0_43, .int .i64 0, .int .i64 0, .int .i64 0, .int .i64 0, .string (⟨#[]⟩ : ByteArray), .slice none 0 0]) ?_ 5 _ rfl; (with_reducible repeat (first | refine blk_drewN ?_ _ | refine blk_drew ?_ | refine blk_alloc ?_ _)); refine blk_put (cs := #[.int .i64 a0_39, .int .i64 a0_40, .int .i64 a0_41, .int .i64 a0_42, .int .i64 0, .int .i64 0, .int .i64 0, .int .i64 0, .int .i64 0, .string (⟨#[]⟩ : ByteArray), .slice none 0 0]) ?_ 4 _ rfl; (with_reducible repeat (first | refine blk_drewN ?_ _ | refine blk_drew ?_ | refine blk_alloc ?_ _)); refine blk_put (cs := #[.int .i64 a0_39, .int .i64 a0_40, .int .i64 a0_41, .int .i64 0, .int .i64 0, .int .i64 0, .int .i64 0, .int .i64 0, .int .i64 0, .string (⟨#[]⟩ : ByteArray), .slice none 0 0]) ?_ 3 _ rfl; (with_reducible repeat (first | refine blk_drewN ?_ _ | refine blk_drew ?_ | refine blk_alloc ?_ _)); refine blk_put (cs := #[.int .i64 a0_39, .int .i64 a0_40, .int .i64 0, .int .i64 0, .int .i64 0, .int .i64 0, .int .i64 0, .int .i64 0, .int .i64 0, .string (⟨#[]⟩ : ByteArray), .slice none 0 0]) ?_ 2 _ rfl; (with_reducible repeat (first | refine blk_drewN ?_ _ | refine blk_drew ?_ | refine blk_alloc ?_ _)); refine blk_put (cs := #[.int .i64 a0_39, .int .i64 0, .int .i64 0, .int .i64 0, .int .i64 0, .int .i64 0, .int .i64 0, .int .i64 0, .int .i64 0, .string (⟨#[]⟩ : ByteArray), .slice none 0 0]) ?_ 1 _ rfl; (with_reducible repeat (first | refine blk_drewN ?_ _ | refine blk_drew ?_ | refine blk_alloc ?_ _)); refine blk_put (cs := pxA45_) ?_ 0 _ rfl; (with_reducible repeat (first | refine blk_drewN ?_ _ | refine blk_drew ?_ | refine blk_alloc ?_ _)); exact BK105.out) hb); have n5_ := Aside0.mk (below_step (by repeat (first | (with_reducible first | exact HB.out | apply below_alloc | apply pw_below_drewN | apply below_drew1 | refine below_set ?_ GE101.out | refine below_set ?_ GE102.out | refine below_set ?_ GE103.out | refine below_set ?_ GE104.out | refine below_set ?_ GE105.out) | exact HB.out)) hb); clear BK101; clear BK102; clear BK103; clear BK104; clear BK105; clear HB; have BK101 := n0_; have BK102 := n1_; have BK103 := n2_; have BK104 := n3_; have BK105 := n4_; have HB := n5_; clear n0_ n1_ n2_ n3_ n4_ n5_; (try clear hb); (try clear hb2); (try clear hk); (try clear hi)))
  (try simp only [Act.put, List.setIfInBounds_toArray, List.set_cons_zero, List.set_cons_succ])
  go_cut [54] (fun v54 wc => ∃ (kq : Nat) (x54_2 : Bool), v54 = .bool x54_2 ∧ Aside0 (copyholdlaw15_WireApart.j0 kq t106 x54_2 a0_0 a0_1 a0_2 a0_3 a0_4 a0_5 a0_6 a0_7 a0_8 a0_9 a0_10 a0_11 a0_12 a0_13 a0_14 a0_15 a0_16 a0_17 a0_18 a0_19 a0_20 a0_21 a0_22 a0_23 a0_24 a0_25 a0_26 a0_27 a0_28 a0_29 a0_30 a0_31 a0_32 a0_33 a0_34 a0_35 a0_36 a0_37 l0_38 a0_39 a0_40 a0_41 a0_42 a0_43 a0_44 a0_45 a0_46 a0_47 a0_48 l0_49 = some r) ∧ Aside0 (kq ≤ k) ∧ Aside0 (wc.heap[gb101]? = some (.cells pxA0_ 39 (0, 0))) ∧ Aside0 (wc.heap[gb102]? = some (.cells pxA30_ 32 (0, 0))) ∧ Aside0 (wc.heap[gb103]? = some (.cells pxA28_ 32 (0, 0))) ∧ Aside0 (wc.heap[gb104]? = some (.cells pxA31_ 37 (0, 0))) ∧ Aside0 (wc.heap[gb105]? = some (.cells pxA32_ 37 (0, 0))) ∧ Aside0 (Below w.heap.size w wc))
  case first =>
    have H := HC3.out
    clear HC3
    replace H := Option.bind_eq_some_iff.mp H
    obtain ⟨t107, A280, H⟩ := H
    replace H : (if t107 = true then ((copyholdlaw15_short.f a0_20 a0_21 a0_22 a0_23 a0_24 a0_25 a0_26 a0_27).bind fun t108 => (if t108 = true then (if (wrap64 ((a0_37.size : Int) + (a0_48.size : Int))) > 4000 then (copyholdlaw15_WireApart.j0 k t106 true a0_0 a0_1 a0_2 a0_3 a0_4 a0_5 a0_6 a0_7 a0_8 a0_9 a0_10 a0_11 a0_12 a0_13 a0_14 a0_15 a0_16 a0_17 a0_18 a0_19 a0_20 a0_21 a0_22 a0_23 a0_24 a0_25 a0_26 a0_27 a0_28 a0_29 a0_30 a0_31 a0_32 a0_33 a0_34 a0_35 a0_36 a0_37 l0_38 a0_39 a0_40 a0_41 a0_42 a0_43 a0_44 a0_45 a0_46 a0_47 a0_48 l0_49) else (copyholdlaw15_WireApart.j0 k t106 (decide ((wrap64 ((l0_38.length : Int) + (l0_49.length : Int))) > 300)) a0_0 a0_1 a0_2 a0_3 a0_4 a0_5 a0_6 a0_7 a0_8 a0_9 a0_10 a0_11 a0_12 a0_13 a0_14 a0_15 a0_16 a0_17 a0_18 a0_19 a0_20 a0_21 a0_22 a0_23 a0_24 a0_25 a0_26 a0_27 a0_28 a0_29 a0_30 a0_31 a0_32 a0_33 a0_34 a0_35 a0_36 a0_37 l0_38 a0_39 a0_40 a0_41 a0_42 a0_43 a0_44 a0_45 a0_46 a0_47 a0_48 l0_49)) else (copyholdlaw15_WireApart.j0 k t106 true a0_0 a0_1 a0_2 a0_3 a0_4 a0_5 a0_6 a0_7 a0_8 a0_9 a0_10 a0_11 a0_12 a0_13 a0_14 a0_15 a0_16 a0_17 a0_18 a0_19 a0_20 a0_21 a0_22 a0_23 a0_24 a0_25 a0_26 a0_27 a0_28 a0_29 a0_30 a0_31 a0_32 a0_33 a0_34 a0_35 a0_36 a0_37 l0_38 a0_39 a0_40 a0_41 a0_42 a0_43 a0_44 a0_45 a0_46 a0_47 a0_48 l0_49))) else (copyholdlaw15_WireApart.j0 k t106 true a0_0 a0_1 a0_2 a0_3 a0_4 a0_5 a0_6 a0_7 a0_8 a0_9 a0_10 a0_11 a0_12 a0_13 a0_14 a0_15 a0_16 a0_17 a0_18 a0_19 a0_20 a0_21 a0_22 a0_23 a0_24 a0_25 a0_26 a0_27 a0_28 a0_29 a0_30 a0_31 a0_32 a0_33 a0_34 a0_35 a0_36 a0_37 l0_38 a0_39 a0_40 a0_41 a0_42 a0_43 a0_44 a0_45 a0_46 a0_47 a0_48 l0_49)) = some r := H
    have A28 := Aside0.mk A280
    clear A280
    by_cases c29 : t107 = true
    · subst c29
      have H1 : ((copyholdlaw15_short.f a0_20 a0_21 a0_22 a0_23 a0_24 a0_25 a0_26 a0_27).bind fun t108 => (if t108 = true then (if (wrap64 ((a0_37.size : Int) + (a0_48.size : Int))) > 4000 then (copyholdlaw15_WireApart.j0 k t106 true a0_0 a0_1 a0_2 a0_3 a0_4 a0_5 a0_6 a0_7 a0_8 a0_9 a0_10 a0_11 a0_12 a0_13 a0_14 a0_15 a0_16 a0_17 a0_18 a0_19 a0_20 a0_21 a0_22 a0_23 a0_24 a0_25 a0_26 a0_27 a0_28 a0_29 a0_30 a0_31 a0_32 a0_33 a0_34 a0_35 a0_36 a0_37 l0_38 a0_39 a0_40 a0_41 a0_42 a0_43 a0_44 a0_45 a0_46 a0_47 a0_48 l0_49) else (copyholdlaw15_WireApart.j0 k t106 (decide ((wrap64 ((l0_38.length : Int) + (l0_49.length : Int))) > 300)) a0_0 a0_1 a0_2 a0_3 a0_4 a0_5 a0_6 a0_7 a0_8 a0_9 a0_10 a0_11 a0_12 a0_13 a0_14 a0_15 a0_16 a0_17 a0_18 a0_19 a0_20 a0_21 a0_22 a0_23 a0_24 a0_25 a0_26 a0_27 a0_28 a0_29 a0_30 a0_31 a0_32 a0_33 a0_34 a0_35 a0_36 a0_37 l0_38 a0_39 a0_40 a0_41 a0_42 a0_43 a0_44 a0_45 a0_46 a0_47 a0_48 l0_49)) else (copyholdlaw15_WireApart.j0 k t106 true a0_0 a0_1 a0_2 a0_3 a0_4 a0_5 a0_6 a0_7 a0_8 a0_9 a0_10 a0_11 a0_12 a0_13 a0_14 a0_15 a0_16 a0_17 a0_18 a0_19 a0_20 a0_21 a0_22 a0_23 a0_24 a0_25 a0_26 a0_27 a0_28 a0_29 a0_30 a0_31 a0_32 a0_33 a0_34 a0_35 a0_36 a0_37 l0_38 a0_39 a0_40 a0_41 a0_42 a0_43 a0_44 a0_45 a0_46 a0_47 a0_48 l0_49))) = some r := by rw [if_pos rfl] at H; exact H
      clear H
      have H := H1
      clear H1
      replace H := Option.bind_eq_some_iff.mp H
      obtain ⟨t108, A300, H⟩ := H
      replace H : (if t108 = true then (if (wrap64 ((a0_37.size : Int) + (a0_48.size : Int))) > 4000 then (copyholdlaw15_WireApart.j0 k t106 true a0_0 a0_1 a0_2 a0_3 a0_4 a0_5 a0_6 a0_7 a0_8 a0_9 a0_10 a0_11 a0_12 a0_13 a0_14 a0_15 a0_16 a0_17 a0_18 a0_19 a0_20 a0_21 a0_22 a0_23 a0_24 a0_25 a0_26 a0_27 a0_28 a0_29 a0_30 a0_31 a0_32 a0_33 a0_34 a0_35 a0_36 a0_37 l0_38 a0_39 a0_40 a0_41 a0_42 a0_43 a0_44 a0_45 a0_46 a0_47 a0_48 l0_49) else (copyholdlaw15_WireApart.j0 k t106 (decide ((wrap64 ((l0_38.length : Int) + (l0_49.length : Int))) > 300)) a0_0 a0_1 a0_2 a0_3 a0_4 a0_5 a0_6 a0_7 a0_8 a0_9 a0_10 a0_11 a0_12 a0_13 a0_14 a0_15 a0_16 a0_17 a0_18 a0_19 a0_20 a0_21 a0_22 a0_23 a0_24 a0_25 a0_26 a0_27 a0_28 a0_29 a0_30 a0_31 a0_32 a0_33 a0_34 a0_35 a0_36 a0_37 l0_38 a0_39 a0_40 a0_41 a0_42 a0_43 a0_44 a0_45 a0_46 a0_47 a0_48 l0_49)) else (copyholdlaw15_WireApart.j0 k t106 true a0_0 a0_1 a0_2 a0_3 a0_4 a0_5 a0_6 a0_7 a0_8 a0_9 a0_10 a0_11 a0_12 a0_13 a0_14 a0_15 a0_16 a0_17 a0_18 a0_19 a0_20 a0_21 a0_22 a0_23 a0_24 a0_25 a0_26 a0_27 a0_28 a0_29 a0_30 a0_31 a0_32 a0_33 a0_34 a0_35 a0_36 a0_37 l0_38 a0_39 a0_40 a0_41 a0_42 a0_43 a0_44 a0_45 a0_46 a0_47 a0_48 l0_49)) = some r := H
      have A30 := Aside0.mk A300
      clear A300
      by_cases c31 : t108 = true
      · subst c31
        have H1 : (if (wrap64 ((a0_37.size : Int) + (a0_48.size : Int))) > 4000 then (copyholdlaw15_WireApart.j0 k t106 true a0_0 a0_1 a0_2 a0_3 a0_4 a0_5 a0_6 a0_7 a0_8 a0_9 a0_10 a0_11 a0_12 a0_13 a0_14 a0_15 a0_16 a0_17 a0_18 a0_19 a0_20 a0_21 a0_22 a0_23 a0_24 a0_25 a0_26 a0_27 a0_28 a0_29 a0_30 a0_31 a0_32 a0_33 a0_34 a0_35 a0_36 a0_37 l0_38 a0_39 a0_40 a0_41 a0_42 a0_43 a0_44 a0_45 a0_46 a0_47 a0_48 l0_49) else (copyholdlaw15_WireApart.j0 k t106 (decide ((wrap64 ((l0_38.length : Int) + (l0_49.length : Int))) > 300)) a0_0 a0_1 a0_2 a0_3 a0_4 a0_5 a0_6 a0_7 a0_8 a0_9 a0_10 a0_11 a0_12 a0_13 a0_14 a0_15 a0_16 a0_17 a0_18 a0_19 a0_20 a0_21 a0_22 a0_23 a0_24 a0_25 a0_26 a0_27 a0_28 a0_29 a0_30 a0_31 a0_32 a0_33 a0_34 a0_35 a0_36 a0_37 l0_38 a0_39 a0_40 a0_41 a0_42 a0_43 a0_44 a0_45 a0_46 a0_47 a0_48 l0_49)) = some r := by rw [if_pos rfl] at H; exact H
        clear H
        have H := H1
        clear H1
        by_cases c32 : (wrap64 ((a0_37.size : Int) + (a0_48.size : Int))) > 4000
        · rw [if_pos c32] at H
          have c32b0 : decide (4000 < (wrap64 ((a0_37.size : Int) + (a0_48.size : Int)))) = true := decide_eq_true c32
          clear c32
          (first | rw [c32b0] | (simp only [i64_w, i32_w]; rw [c32b0]) | skip)
          have H' := Aside0.mk H
          clear H
          have hnb33 := NB102_101.out
          have hnc33 := NB101_102.out
          have hnb34 := NB102_103.out
          have hnc34 := NB103_102.out
          have hnb35 := NB102_104.out
          have hnc35 := NB104_102.out
          have hnb36 := NB102_105.out
          have hnc36 := NB105_102.out
          pxh_ hcz37_0 w27 gb102 0 (.int .i64 a0_0) BK102
          pxh_ hcz37_1 w27 gb102 1 (.int .i64 a0_1) BK102
          pxh_ hcz37_2 w27 gb102 2 (.int .i64 a0_2) BK102
          pxh_ hcz37_3 w27 gb102 3 (.int .i64 a0_3) BK102
          pxh_ hcz37_4 w27 gb102 4 (.int .i64 a0_4) BK102
          pxh_ hcz37_5 w27 gb102 5 (.int .i64 a0_5) BK102
          pxh_ hcz37_6 w27 gb102 6 (.int .i64 a0_6) BK102
          pxh_ hcz37_7 w27 gb102 7 (.int .i64 a0_7) BK102
          pxh_ hcz37_8 w27 gb102 8 (.int .i64 a0_8) BK102
          pxh_ hcz37_9 w27 gb102 9 (.int .i64 a0_9) BK102
          pxh_ hcz37_10 w27 gb102 10 (.int .i64 a0_10) BK102
          pxh_ hcz37_11 w27 gb102 11 (.string a0_11) BK102
          pxh_ hcz37_12 w27 gb102 12 (.string a0_12) BK102
          pxh_ hcz37_13 w27 gb102 13 (.string a0_13) BK102
          pxf_ hfz37_0 BK102 0
          pxf_ hfz37_1 BK102 1
          pxf_ hfz37_2 BK102 2
          pxf_ hfz37_3 BK102 3
          pxf_ hfz37_4 BK102 4
          pxf_ hfz37_5 BK102 5
          pxf_ hfz37_6 BK102 6
          pxf_ hfz37_7 BK102 7
          pxf_ hfz37_8 BK102 8
          pxf_ hfz37_9 BK102 9
          pxf_ hfz37_10 BK102 10
          pxf_ hfz37_11 BK102 11
          pxf_ hfz37_12 BK102 12
          pxf_ hfz37_13 BK102 13
          go_wp2_with (first | ((with_reducible refine gate_callee (f := 11) rfl ?_); refine goesL_ (some 23) rfl rfl Try.func11 (by kernel_rfl) rfl pxA46_ rfl (by (try simp only [List.map_toArray, List.map_cons, List.map_nil]); first | done | rfl | (simp only [List.length_drop, List.length_take]; rfl)) ?_; (with_reducible refine (copyholdlaw15_short.calls a0_6 a0_7 a0_8 a0_9 a0_10 a0_11 a0_12 a0_13 true _ A28.out).mono ?_); rintro e w38 ⟨rfl, hb⟩; refine ⟨_, rfl, ?_⟩; have n0_ := Aside0.mk (blk_below (g := gb101) (o := .cells pxA1_ 39 (0, 0)) (by (with_reducible repeat (first | refine blk_drewN ?_ _ | refine blk_drew ?_ | refine blk_alloc ?_ _)); exact BK101.out) hb); have n1_ := Aside0.mk (blk_below (g := gb102) (o := .cells pxA30_ 32 (0, 0)) (by (with_reducible repeat (first | refine blk_drewN ?_ _ | refine blk_drew ?_ | refine blk_alloc ?_ _)); exact BK102.out) hb); have n2_ := Aside0.mk (blk_below (g := gb103) (o := .cells pxA28_ 32 (0, 0)) (by (with_reducible repeat (first | refine blk_drewN ?_ _ | refine blk_drew ?_ | refine blk_alloc ?_ _)); exact BK103.out) hb); have n3_ := Aside0.mk (blk_below (g := gb104) (o := .cells pxA33_ 37 (0, 0)) (by (with_reducible repeat (first | refine blk_drewN ?_ _ | refine blk_drew ?_ | refine blk_alloc ?_ _)); exact BK104.out) hb); have n4_ := Aside0.mk (blk_below (g := gb105) (o := .cells pxA34_ 37 (0, 0)) (by (with_reducible repeat (first | refine blk_drewN ?_ _ | refine blk_drew ?_ | refine blk_alloc ?_ _)); exact BK105.out) hb); have n5_ := Aside0.mk (below_step (by repeat (first | (with_reducible first | exact HB.out | apply below_alloc | apply pw_below_drewN | apply below_drew1 | refine below_set ?_ GE101.out | refine below_set ?_ GE102.out | refine below_set ?_ GE103.out | refine below_set ?_ GE104.out | refine below_set ?_ GE105.out) | exact HB.out)) hb); clear BK101; clear BK102; clear BK103; clear BK104; clear BK105; clear HB; have BK101 := n0_; have BK102 := n1_; have BK103 := n2_; have BK104 := n3_; have BK105 := n4_; have HB := n5_; clear n0_ n1_ n2_ n3_ n4_ n5_; (try clear hb); (try clear hb2); (try clear hk); (try clear hi); have hnb39 := NB103_101.out; have hnc39 := NB101_103.out; have hnb40 := NB103_104.out; have hnc40 := NB104_103.out; have hnb41 := NB103_105.out; have hnc41 := NB105_103.out; pxh_ hcz42_0 w38 gb103 0 (.int .i64 a0_14) BK103; pxh_ hcz42_1 w38 gb103 1 (.int .i64 a0_15) BK103; pxh_ hcz42_2 w38 gb103 2 (.int .i64 a0_16) BK103; pxh_ hcz42_3 w38 gb103 3 (.int .i64 a0_17) BK103; pxh_ hcz42_4 w38 gb103 4 (.int .i64 a0_18) BK103; pxh_ hcz42_5 w38 gb103 5 (.int .i64 a0_19) BK103; pxh_ hcz42_6 w38 gb103 6 (.int .i64 a0_20) BK103; pxh_ hcz42_7 w38 gb103 7 (.int .i64 a0_21) BK103; pxh_ hcz42_8 w38 gb103 8 (.int .i64 a0_22) BK103; pxh_ hcz42_9 w38 gb103 9 (.int .i64 a0_23) BK103; pxh_ hcz42_10 w38 gb103 10 (.int .i64 a0_24) BK103; pxh_ hcz42_11 w38 gb103 11 (.string a0_25) BK103; pxh_ hcz42_12 w38 gb103 12 (.string a0_26) BK103; pxh_ hcz42_13 w38 gb103 13 (.string a0_27) BK103; pxf_ hfz42_0 BK103 0; pxf_ hfz42_1 BK103 1; pxf_ hfz42_2 BK103 2; pxf_ hfz42_3 BK103 3; pxf_ hfz42_4 BK103 4; pxf_ hfz42_5 BK103 5; pxf_ hfz42_6 BK103 6; pxf_ hfz42_7 BK103 7; pxf_ hfz42_8 BK103 8; pxf_ hfz42_9 BK103 9; pxf_ hfz42_10 BK103 10; pxf_ hfz42_11 BK103 11; pxf_ hfz42_12 BK103 12; pxf_ hfz42_13 BK103 13) | (go_at_call 11; (with_reducible refine (copyholdlaw15_short.calls a0_20 a0_21 a0_22 a0_23 a0_24 a0_25 a0_26 a0_27 true _ A30.out).mono ?_); rintro e w43 ⟨rfl, hb⟩; have n0_ := Aside0.mk (blk_below (g := gb101) (o := .cells pxA1_ 39 (0, 0)) (by (with_reducible repeat (first | refine blk_drewN ?_ _ | refine blk_drew ?_ | refine blk_alloc ?_ _)); exact BK101.out) hb); have n1_ := Aside0.mk (blk_below (g := gb102) (o := .cells pxA30_ 32 (0, 0)) (by (with_reducible repeat (first | refine blk_drewN ?_ _ | refine blk_drew ?_ | refine blk_alloc ?_ _)); exact BK102.out) hb); have n2_ := Aside0.mk (blk_below (g := gb103) (o := .cells pxA28_ 32 (0, 0)) (by (with_reducible repeat (first | refine blk_drewN ?_ _ | refine blk_drew ?_ | refine blk_alloc ?_ _)); exact BK103.out) hb); have n3_ := Aside0.mk (blk_below (g := gb104) (o := .cells pxA33_ 37 (0, 0)) (by (with_reducible repeat (first | refine blk_drewN ?_ _ | refine blk_drew ?_ | refine blk_alloc ?_ _)); exact BK104.out) hb); have n4_ := Aside0.mk (blk_below (g := gb105) (o := .cells pxA34_ 37 (0, 0)) (by (with_reducible repeat (first | refine blk_drewN ?_ _ | refine blk_drew ?_ | refine blk_alloc ?_ _)); exact BK105.out) hb); have n5_ := Aside0.mk (below_step (by repeat (first | (with_reducible first | exact HB.out | apply below_alloc | apply pw_below_drewN | apply below_drew1 | refine below_set ?_ GE101.out | refine below_set ?_ GE102.out | refine below_set ?_ GE103.out | refine below_set ?_ GE104.out | refine below_set ?_ GE105.out) | exact HB.out)) hb); clear BK101; clear BK102; clear BK103; clear BK104; clear BK105; clear HB; have BK101 := n0_; have BK102 := n1_; have BK103 := n2_; have BK104 := n3_; have BK105 := n4_; have HB := n5_; clear n0_ n1_ n2_ n3_ n4_ n5_; (try clear hb); (try clear hb2); (try clear hk); (try clear hi); have hnb44 := NB104_101.out; have hnc44 := NB101_104.out; have hnb45 := NB104_105.out; have hnc45 := NB105_104.out; pxh_ hcz46_0 w43 gb104 0 (.int .i64 a0_28) BK104; pxh_ hcz46_1 w43 gb104 1 (.int .i64 a0_29) BK104; pxh_ hcz46_2 w43 gb104 2 (.int .i64 a0_30) BK104; pxh_ hcz46_3 w43 gb104 3 (.int .i64 a0_31) BK104; pxh_ hcz46_4 w43 gb104 4 (.int .i64 a0_32) BK104; pxh_ hcz46_5 w43 gb104 5 (.int .i64 a0_33) BK104; pxh_ hcz46_6 w43 gb104 6 (.int .i64 a0_34) BK104; pxh_ hcz46_7 w43 gb104 7 (.int .i64 a0_35) BK104; pxh_ hcz46_8 w43 gb104 8 (.int .i64 a0_36) BK104; pxh_ hcz46_9 w43 gb104 9 (.string a0_37) BK104; pxh_ hcz46_10 w43 gb104 10 (.slice A0_38 l0_38.length c0_38) BK104; pxf_ hfz46_0 BK104 0; pxf_ hfz46_1 BK104 1; pxf_ hfz46_2 BK104 2; pxf_ hfz46_3 BK104 3; pxf_ hfz46_4 BK104 4; pxf_ hfz46_5 BK104 5; pxf_ hfz46_6 BK104 6; pxf_ hfz46_7 BK104 7; pxf_ hfz46_8 BK104 8; pxf_ hfz46_9 BK104 9; pxf_ hfz46_10 BK104 10; have hnb47 := NB105_101.out; have hnc47 := NB101_105.out; pxh_ hcz48_0 w43 gb105 0 (.int .i64 a0_39) BK105; pxh_ hcz48_1 w43 gb105 1 (.int .i64 a0_40) BK105; pxh_ hcz48_2 w43 gb105 2 (.int .i64 a0_41) BK105; pxh_ hcz48_3 w43 gb105 3 (.int .i64 a0_42) BK105; pxh_ hcz48_4 w43 gb105 4 (.int .i64 a0_43) BK105; pxh_ hcz48_5 w43 gb105 5 (.int .i64 a0_44) BK105; pxh_ hcz48_6 w43 gb105 6 (.int .i64 a0_45) BK105; pxh_ hcz48_7 w43 gb105 7 (.int .i64 a0_46) BK105; pxh_ hcz48_8 w43 gb105 8 (.int .i64 a0_47) BK105; pxh_ hcz48_9 w43 gb105 9 (.string a0_48) BK105; pxh_ hcz48_10 w43 gb105 10 (.slice A0_49 l0_49.length c0_49) BK105; pxf_ hfz48_0 BK105 0; pxf_ hfz48_1 BK105 1; pxf_ hfz48_2 BK105 2; pxf_ hfz48_3 BK105 3; pxf_ hfz48_4 BK105 4; pxf_ hfz48_5 BK105 5; pxf_ hfz48_6 BK105 6; pxf_ hfz48_7 BK105 7; pxf_ hfz48_8 BK105 8; pxf_ hfz48_9 BK105 9; pxf_ hfz48_10 BK105 10))
          go_meet
          pxL0_
        · rw [if_neg c32] at H
          have c32b0 : decide (4000 < (wrap64 ((a0_37.size : Int) + (a0_48.size : Int)))) = false := decide_eq_false c32
          clear c32
          (first | rw [c32b0] | (simp only [i64_w, i32_w]; rw [c32b0]) | skip)
          have H' := Aside0.mk H
          clear H
          have hnb49 := NB102_101.out
          have hnc49 := NB101_102.out
          have hnb50 := NB102_103.out
          have hnc50 := NB103_102.out
          have hnb51 := NB102_104.out
          have hnc51 := NB104_102.out
          have hnb52 := NB102_105.out
          have hnc52 := NB105_102.out
          pxh_ hcz53_0 w27 gb102 0 (.int .i64 a0_0) BK102
          pxh_ hcz53_1 w27 gb102 1 (.int .i64 a0_1) BK102
          pxh_ hcz53_2 w27 gb102 2 (.int .i64 a0_2) BK102
          pxh_ hcz53_3 w27 gb102 3 (.int .i64 a0_3) BK102
          pxh_ hcz53_4 w27 gb102 4 (.int .i64 a0_4) BK102
          pxh_ hcz53_5 w27 gb102 5 (.int .i64 a0_5) BK102
          pxh_ hcz53_6 w27 gb102 6 (.int .i64 a0_6) BK102
          pxh_ hcz53_7 w27 gb102 7 (.int .i64 a0_7) BK102
          pxh_ hcz53_8 w27 gb102 8 (.int .i64 a0_8) BK102
          pxh_ hcz53_9 w27 gb102 9 (.int .i64 a0_9) BK102
          pxh_ hcz53_10 w27 gb102 10 (.int .i64 a0_10) BK102
          pxh_ hcz53_11 w27 gb102 11 (.string a0_11) BK102
          pxh_ hcz53_12 w27 gb102 12 (.string a0_12) BK102
          pxh_ hcz53_13 w27 gb102 13 (.string a0_13) BK102
          pxf_ hfz53_0 BK102 0
          pxf_ hfz53_1 BK102 1
          pxf_ hfz53_2 BK102 2
          pxf_ hfz53_3 BK102 3
          pxf_ hfz53_4 BK102 4
          pxf_ hfz53_5 BK102 5
          pxf_ hfz53_6 BK102 6
          pxf_ hfz53_7 BK102 7
          pxf_ hfz53_8 BK102 8
          pxf_ hfz53_9 BK102 9
          pxf_ hfz53_10 BK102 10
          pxf_ hfz53_11 BK102 11
          pxf_ hfz53_12 BK102 12
          pxf_ hfz53_13 BK102 13
          go_wp2_with (first | ((with_reducible refine gate_callee (f := 11) rfl ?_); refine goesL_ (some 23) rfl rfl Try.func11 (by kernel_rfl) rfl pxA46_ rfl (by (try simp only [List.map_toArray, List.map_cons, List.map_nil]); first | done | rfl | (simp only [List.length_drop, List.length_take]; rfl)) ?_; (with_reducible refine (copyholdlaw15_short.calls a0_6 a0_7 a0_8 a0_9 a0_10 a0_11 a0_12 a0_13 true _ A28.out).mono ?_); rintro e w54 ⟨rfl, hb⟩; refine ⟨_, rfl, ?_⟩; have n0_ := Aside0.mk (blk_below (g := gb101) (o := .cells pxA1_ 39 (0, 0)) (by (with_reducible repeat (first | refine blk_drewN ?_ _ | refine blk_drew ?_ | refine blk_alloc ?_ _)); exact BK101.out) hb); have n1_ := Aside0.mk (blk_below (g := gb102) (o := .cells pxA30_ 32 (0, 0)) (by (with_reducible repeat (first | refine blk_drewN ?_ _ | refine blk_drew ?_ | refine blk_alloc ?_ _)); exact BK102.out) hb); have n2_ := Aside0.mk (blk_below (g := gb103) (o := .cells pxA28_ 32 (0, 0)) (by (with_reducible repeat (first | refine blk_drewN ?_ _ | refine blk_drew ?_ | refine blk_alloc ?_ _)); exact BK103.out) hb); have n3_ := Aside0.mk (blk_below (g := gb104) (o := .cells pxA33_ 37 (0, 0)) (by (with_reducible repeat (first | refine blk_drewN ?_ _ | refine blk_drew ?_ | refine blk_alloc ?_ _)); exact BK104.out) hb); have n4_ := Aside0.mk (blk_below (g := gb105) (o := .cells pxA34_ 37 (0, 0)) (by (with_reducible repeat (first | refine blk_drewN ?_ _ | refine blk_drew ?_ | refine blk_alloc ?_ _)); exact BK105.out) hb); have n5_ := Aside0.mk (below_step (by repeat (first | (with_reducible first | exact HB.out | apply below_alloc | apply pw_below_drewN | apply below_drew1 | refine below_set ?_ GE101.out | refine below_set ?_ GE102.out | refine below_set ?_ GE103.out | refine below_set ?_ GE104.out | refine below_set ?_ GE105.out) | exact HB.out)) hb); clear BK101; clear BK102; clear BK103; clear BK104; clear BK105; clear HB; have BK101 := n0_; have BK102 := n1_; have BK103 := n2_; have BK104 := n3_; have BK105 := n4_; have HB := n5_; clear n0_ n1_ n2_ n3_ n4_ n5_; (try clear hb); (try clear hb2); (try clear hk); (try clear hi); have hnb55 := NB103_101.out; have hnc55 := NB101_103.out; have hnb56 := NB103_104.out; have hnc56 := NB104_103.out; have hnb57 := NB103_105.out; have hnc57 := NB105_103.out; pxh_ hcz58_0 w54 gb103 0 (.int .i64 a0_14) BK103; pxh_ hcz58_1 w54 gb103 1 (.int .i64 a0_15) BK103; pxh_ hcz58_2 w54 gb103 2 (.int .i64 a0_16) BK103; pxh_ hcz58_3 w54 gb103 3 (.int .i64 a0_17) BK103; pxh_ hcz58_4 w54 gb103 4 (.int .i64 a0_18) BK103; pxh_ hcz58_5 w54 gb103 5 (.int .i64 a0_19) BK103; pxh_ hcz58_6 w54 gb103 6 (.int .i64 a0_20) BK103; pxh_ hcz58_7 w54 gb103 7 (.int .i64 a0_21) BK103; pxh_ hcz58_8 w54 gb103 8 (.int .i64 a0_22) BK103; pxh_ hcz58_9 w54 gb103 9 (.int .i64 a0_23) BK103; pxh_ hcz58_10 w54 gb103 10 (.int .i64 a0_24) BK103; pxh_ hcz58_11 w54 gb103 11 (.string a0_25) BK103; pxh_ hcz58_12 w54 gb103 12 (.string a0_26) BK103; pxh_ hcz58_13 w54 gb103 13 (.string a0_27) BK103; pxf_ hfz58_0 BK103 0; pxf_ hfz58_1 BK103 1; pxf_ hfz58_2 BK103 2; pxf_ hfz58_3 BK103 3; pxf_ hfz58_4 BK103 4; pxf_ hfz58_5 BK103 5; pxf_ hfz58_6 BK103 6; pxf_ hfz58_7 BK103 7; pxf_ hfz58_8 BK103 8; pxf_ hfz58_9 BK103 9; pxf_ hfz58_10 BK103 10; pxf_ hfz58_11 BK103 11; pxf_ hfz58_12 BK103 12; pxf_ hfz58_13 BK103 13) | (go_at_call 11; (with_reducible refine (copyholdlaw15_short.calls a0_20 a0_21 a0_22 a0_23 a0_24 a0_25 a0_26 a0_27 true _ A30.out).mono ?_); rintro e w59 ⟨rfl, hb⟩; have n0_ := Aside0.mk (blk_below (g := gb101) (o := .cells pxA1_ 39 (0, 0)) (by (with_reducible repeat (first | refine blk_drewN ?_ _ | refine blk_drew ?_ | refine blk_alloc ?_ _)); exact BK101.out) hb); have n1_ := Aside0.mk (blk_below (g := gb102) (o := .cells pxA30_ 32 (0, 0)) (by (with_reducible repeat (first | refine blk_drewN ?_ _ | refine blk_drew ?_ | refine blk_alloc ?_ _)); exact BK102.out) hb); have n2_ := Aside0.mk (blk_below (g := gb103) (o := .cells pxA28_ 32 (0, 0)) (by (with_reducible repeat (first | refine blk_drewN ?_ _ | refine blk_drew ?_ | refine blk_alloc ?_ _)); exact BK103.out) hb); have n3_ := Aside0.mk (blk_below (g := gb104) (o := .cells pxA33_ 37 (0, 0)) (by (with_reducible repeat (first | refine blk_drewN ?_ _ | refine blk_drew ?_ | refine blk_alloc ?_ _)); exact BK104.out) hb); have n4_ := Aside0.mk (blk_below (g := gb105) (o := .cells pxA34_ 37 (0, 0)) (by (with_reducible repeat (first | refine blk_drewN ?_ _ | refine blk_drew ?_ | refine blk_alloc ?_ _)); exact BK105.out) hb); have n5_ := Aside0.mk (below_step (by repeat (first | (with_reducible first | exact HB.out | apply below_alloc | apply pw_below_drewN | apply below_drew1 | refine below_set ?_ GE101.out | refine below_set ?_ GE102.out | refine below_set ?_ GE103.out | refine below_set ?_ GE104.out | refine below_set ?_ GE105.out) | exact HB.out)) hb); clear BK101; clear BK102; clear BK103; clear BK104; clear BK105; clear HB; have BK101 := n0_; have BK102 := n1_; have BK103 := n2_; have BK104 := n3_; have BK105 := n4_; have HB := n5_; clear n0_ n1_ n2_ n3_ n4_ n5_; (try clear hb); (try clear hb2); (try clear hk); (try clear hi); have hnb60 := NB104_101.out; have hnc60 := NB101_104.out; have hnb61 := NB104_105.out; have hnc61 := NB105_104.out; pxh_ hcz62_0 w59 gb104 0 (.int .i64 a0_28) BK104; pxh_ hcz62_1 w59 gb104 1 (.int .i64 a0_29) BK104; pxh_ hcz62_2 w59 gb104 2 (.int .i64 a0_30) BK104; pxh_ hcz62_3 w59 gb104 3 (.int .i64 a0_31) BK104; pxh_ hcz62_4 w59 gb104 4 (.int .i64 a0_32) BK104; pxh_ hcz62_5 w59 gb104 5 (.int .i64 a0_33) BK104; pxh_ hcz62_6 w59 gb104 6 (.int .i64 a0_34) BK104; pxh_ hcz62_7 w59 gb104 7 (.int .i64 a0_35) BK104; pxh_ hcz62_8 w59 gb104 8 (.int .i64 a0_36) BK104; pxh_ hcz62_9 w59 gb104 9 (.string a0_37) BK104; pxh_ hcz62_10 w59 gb104 10 (.slice A0_38 l0_38.length c0_38) BK104; pxf_ hfz62_0 BK104 0; pxf_ hfz62_1 BK104 1; pxf_ hfz62_2 BK104 2; pxf_ hfz62_3 BK104 3; pxf_ hfz62_4 BK104 4; pxf_ hfz62_5 BK104 5; pxf_ hfz62_6 BK104 6; pxf_ hfz62_7 BK104 7; pxf_ hfz62_8 BK104 8; pxf_ hfz62_9 BK104 9; pxf_ hfz62_10 BK104 10; have hnb63 := NB105_101.out; have hnc63 := NB101_105.out; pxh_ hcz64_0 w59 gb105 0 (.int .i64 a0_39) BK105; pxh_ hcz64_1 w59 gb105 1 (.int .i64 a0_40) BK105; pxh_ hcz64_2 w59 gb105 2 (.int .i64 a0_41) BK105; pxh_ hcz64_3 w59 gb105 3 (.int .i64 a0_42) BK105; pxh_ hcz64_4 w59 gb105 4 (.int .i64 a0_43) BK105; pxh_ hcz64_5 w59 gb105 5 (.int .i64 a0_44) BK105; pxh_ hcz64_6 w59 gb105 6 (.int .i64 a0_45) BK105; pxh_ hcz64_7 w59 gb105 7 (.int .i64 a0_46) BK105; pxh_ hcz64_8 w59 gb105 8 (.int .i64 a0_47) BK105; pxh_ hcz64_9 w59 gb105 9 (.string a0_48) BK105; pxh_ hcz64_10 w59 gb105 10 (.slice A0_49 l0_49.length c0_49) BK105; pxf_ hfz64_0 BK105 0; pxf_ hfz64_1 BK105 1; pxf_ hfz64_2 BK105 2; pxf_ hfz64_3 BK105 3; pxf_ hfz64_4 BK105 4; pxf_ hfz64_5 BK105 5; pxf_ hfz64_6 BK105 6; pxf_ hfz64_7 BK105 7; pxf_ hfz64_8 BK105 8; pxf_ hfz64_9 BK105 9; pxf_ hfz64_10 BK105 10))
          go_meet
          case rel => exact ⟨_, (decide ((wrap64 ((l0_38.length : Int) + (l0_49.length : Int))) > 300)), (by first | rfl | (simp; done) | (simp [*]; done)), H', ⟨by first | omega | exact Nat.le_refl _⟩, ⟨by (with_reducible repeat (first | refine blk_drewN ?_ _ | refine blk_drew ?_ | refine blk_alloc ?_ _)); exact BK101.out⟩, ⟨by (with_reducible repeat (first | refine blk_drewN ?_ _ | refine blk_drew ?_ | refine blk_alloc ?_ _)); exact BK102.out⟩, ⟨by (with_reducible repeat (first | refine blk_drewN ?_ _ | refine blk_drew ?_ | refine blk_alloc ?_ _)); exact BK103.out⟩, ⟨by (with_reducible repeat (first | refine blk_drewN ?_ _ | refine blk_drew ?_ | refine blk_alloc ?_ _)); exact BK104.out⟩, ⟨by (with_reducible repeat (first | refine blk_drewN ?_ _ | refine blk_drew ?_ | refine blk_alloc ?_ _)); exact BK105.out⟩, ⟨by repeat (first | (with_reducible first | exact HB.out | apply below_alloc | apply pw_below_drewN | apply below_drew1 | refine below_set ?_ GE101.out | refine below_set ?_ GE102.out | refine below_set ?_ GE103.out | refine below_set ?_ GE104.out | refine below_set ?_ GE105.out) | exact HB.out)⟩⟩
      · replace c31 := Bool.eq_false_iff.mpr c31
        subst c31
        pxL1_
        clear H
        have H := H1
        clear H1
        have H' := Aside0.mk H
        clear H
        have hnb65 := NB102_101.out
        have hnc65 := NB101_102.out
        have hnb66 := NB102_103.out
        have hnc66 := NB103_102.out
        have hnb67 := NB102_104.out
        have hnc67 := NB104_102.out
        have hnb68 := NB102_105.out
        have hnc68 := NB105_102.out
        pxh_ hcz69_0 w27 gb102 0 (.int .i64 a0_0) BK102
        pxh_ hcz69_1 w27 gb102 1 (.int .i64 a0_1) BK102
        pxh_ hcz69_2 w27 gb102 2 (.int .i64 a0_2) BK102
        pxh_ hcz69_3 w27 gb102 3 (.int .i64 a0_3) BK102
        pxh_ hcz69_4 w27 gb102 4 (.int .i64 a0_4) BK102
        pxh_ hcz69_5 w27 gb102 5 (.int .i64 a0_5) BK102
        pxh_ hcz69_6 w27 gb102 6 (.int .i64 a0_6) BK102
        pxh_ hcz69_7 w27 gb102 7 (.int .i64 a0_7) BK102
        pxh_ hcz69_8 w27 gb102 8 (.int .i64 a0_8) BK102
        pxh_ hcz69_9 w27 gb102 9 (.int .i64 a0_9) BK102
        pxh_ hcz69_10 w27 gb102 10 (.int .i64 a0_10) BK102
        pxh_ hcz69_11 w27 gb102 11 (.string a0_11) BK102
        pxh_ hcz69_12 w27 gb102 12 (.string a0_12) BK102
        pxh_ hcz69_13 w27 gb102 13 (.string a0_13) BK102
        pxf_ hfz69_0 BK102 0
        pxf_ hfz69_1 BK102 1
        pxf_ hfz69_2 BK102 2
        pxf_ hfz69_3 BK102 3
        pxf_ hfz69_4 BK102 4
        pxf_ hfz69_5 BK102 5
        pxf_ hfz69_6 BK102 6
        pxf_ hfz69_7 BK102 7
        pxf_ hfz69_8 BK102 8
        pxf_ hfz69_9 BK102 9
        pxf_ hfz69_10 BK102 10
        pxf_ hfz69_11 BK102 11
        pxf_ hfz69_12 BK102 12
        pxf_ hfz69_13 BK102 13
        go_wp2_with (first | ((with_reducible refine gate_callee (f := 11) rfl ?_); refine goesL_ (some 23) rfl rfl Try.func11 (by kernel_rfl) rfl pxA46_ rfl (by (try simp only [List.map_toArray, List.map_cons, List.map_nil]); first | done | rfl | (simp only [List.length_drop, List.length_take]; rfl)) ?_; (with_reducible refine (copyholdlaw15_short.calls a0_6 a0_7 a0_8 a0_9 a0_10 a0_11 a0_12 a0_13 true _ A28.out).mono ?_); rintro e w70 ⟨rfl, hb⟩; refine ⟨_, rfl, ?_⟩; have n0_ := Aside0.mk (blk_below (g := gb101) (o := .cells pxA1_ 39 (0, 0)) (by (with_reducible repeat (first | refine blk_drewN ?_ _ | refine blk_drew ?_ | refine blk_alloc ?_ _)); exact BK101.out) hb); have n1_ := Aside0.mk (blk_below (g := gb102) (o := .cells pxA30_ 32 (0, 0)) (by (with_reducible repeat (first | refine blk_drewN ?_ _ | refine blk_drew ?_ | refine blk_alloc ?_ _)); exact BK102.out) hb); have n2_ := Aside0.mk (blk_below (g := gb103) (o := .cells pxA28_ 32 (0, 0)) (by (with_reducible repeat (first | refine blk_drewN ?_ _ | refine blk_drew ?_ | refine blk_alloc ?_ _)); exact BK103.out) hb); have n3_ := Aside0.mk (blk_below (g := gb104) (o := .cells pxA33_ 37 (0, 0)) (by (with_reducible repeat (first | refine blk_drewN ?_ _ | refine blk_drew ?_ | refine blk_alloc ?_ _)); exact BK104.out) hb); have n4_ := Aside0.mk (blk_below (g := gb105) (o := .cells pxA34_ 37 (0, 0)) (by (with_reducible repeat (first | refine blk_drewN ?_ _ | refine blk_drew ?_ | refine blk_alloc ?_ _)); exact BK105.out) hb); have n5_ := Aside0.mk (below_step (by repeat (first | (with_reducible first | exact HB.out | apply below_alloc | apply pw_below_drewN | apply below_drew1 | refine below_set ?_ GE101.out | refine below_set ?_ GE102.out | refine below_set ?_ GE103.out | refine below_set ?_ GE104.out | refine below_set ?_ GE105.out) | exact HB.out)) hb); clear BK101; clear BK102; clear BK103; clear BK104; clear BK105; clear HB; have BK101 := n0_; have BK102 := n1_; have BK103 := n2_; have BK104 := n3_; have BK105 := n4_; have HB := n5_; clear n0_ n1_ n2_ n3_ n4_ n5_; (try clear hb); (try clear hb2); (try clear hk); (try clear hi); have hnb71 := NB103_101.out; have hnc71 := NB101_103.out; have hnb72 := NB103_104.out; have hnc72 := NB104_103.out; have hnb73 := NB103_105.out; have hnc73 := NB105_103.out; pxh_ hcz74_0 w70 gb103 0 (.int .i64 a0_14) BK103; pxh_ hcz74_1 w70 gb103 1 (.int .i64 a0_15) BK103; pxh_ hcz74_2 w70 gb103 2 (.int .i64 a0_16) BK103; pxh_ hcz74_3 w70 gb103 3 (.int .i64 a0_17) BK103; pxh_ hcz74_4 w70 gb103 4 (.int .i64 a0_18) BK103; pxh_ hcz74_5 w70 gb103 5 (.int .i64 a0_19) BK103; pxh_ hcz74_6 w70 gb103 6 (.int .i64 a0_20) BK103; pxh_ hcz74_7 w70 gb103 7 (.int .i64 a0_21) BK103; pxh_ hcz74_8 w70 gb103 8 (.int .i64 a0_22) BK103; pxh_ hcz74_9 w70 gb103 9 (.int .i64 a0_23) BK103; pxh_ hcz74_10 w70 gb103 10 (.int .i64 a0_24) BK103; pxh_ hcz74_11 w70 gb103 11 (.string a0_25) BK103; pxh_ hcz74_12 w70 gb103 12 (.string a0_26) BK103; pxh_ hcz74_13 w70 gb103 13 (.string a0_27) BK103; pxf_ hfz74_0 BK103 0; pxf_ hfz74_1 BK103 1; pxf_ hfz74_2 BK103 2; pxf_ hfz74_3 BK103 3; pxf_ hfz74_4 BK103 4; pxf_ hfz74_5 BK103 5; pxf_ hfz74_6 BK103 6; pxf_ hfz74_7 BK103 7; pxf_ hfz74_8 BK103 8; pxf_ hfz74_9 BK103 9; pxf_ hfz74_10 BK103 10; pxf_ hfz74_11 BK103 11; pxf_ hfz74_12 BK103 12; pxf_ hfz74_13 BK103 13) | (go_at_call 11; (with_reducible refine (copyholdlaw15_short.calls a0_20 a0_21 a0_22 a0_23 a0_24 a0_25 a0_26 a0_27 false _ A30.out).mono ?_); rintro e w75 ⟨rfl, hb⟩; have n0_ := Aside0.mk (blk_below (g := gb101) (o := .cells pxA1_ 39 (0, 0)) (by (with_reducible repeat (first | refine blk_drewN ?_ _ | refine blk_drew ?_ | refine blk_alloc ?_ _)); exact BK101.out) hb); have n1_ := Aside0.mk (blk_below (g := gb102) (o := .cells pxA30_ 32 (0, 0)) (by (with_reducible repeat (first | refine blk_drewN ?_ _ | refine blk_drew ?_ | refine blk_alloc ?_ _)); exact BK102.out) hb); have n2_ := Aside0.mk (blk_below (g := gb103) (o := .cells pxA28_ 32 (0, 0)) (by (with_reducible repeat (first | refine blk_drewN ?_ _ | refine blk_drew ?_ | refine blk_alloc ?_ _)); exact BK103.out) hb); have n3_ := Aside0.mk (blk_below (g := gb104) (o := .cells pxA33_ 37 (0, 0)) (by (with_reducible repeat (first | refine blk_drewN ?_ _ | refine blk_drew ?_ | refine blk_alloc ?_ _)); exact BK104.out) hb); have n4_ := Aside0.mk (blk_below (g := gb105) (o := .cells pxA34_ 37 (0, 0)) (by (with_reducible repeat (first | refine blk_drewN ?_ _ | refine blk_drew ?_ | refine blk_alloc ?_ _)); exact BK105.out) hb); have n5_ := Aside0.mk (below_step (by repeat (first | (with_reducible first | exact HB.out | apply below_alloc | apply pw_below_drewN | apply below_drew1 | refine below_set ?_ GE101.out | refine below_set ?_ GE102.out | refine below_set ?_ GE103.out | refine below_set ?_ GE104.out | refine below_set ?_ GE105.out) | exact HB.out)) hb); clear BK101; clear BK102; clear BK103; clear BK104; clear BK105; clear HB; have BK101 := n0_; have BK102 := n1_; have BK103 := n2_; have BK104 := n3_; have BK105 := n4_; have HB := n5_; clear n0_ n1_ n2_ n3_ n4_ n5_; (try clear hb); (try clear hb2); (try clear hk); (try clear hi)))
        go_meet
        pxL0_
    · replace c29 := Bool.eq_false_iff.mpr c29
      subst c29
      pxL1_
      clear H
      have H := H1
      clear H1
      have H' := Aside0.mk H
      clear H
      have hnb76 := NB102_101.out
      have hnc76 := NB101_102.out
      have hnb77 := NB102_103.out
      have hnc77 := NB103_102.out
      have hnb78 := NB102_104.out
      have hnc78 := NB104_102.out
      have hnb79 := NB102_105.out
      have hnc79 := NB105_102.out
      pxh_ hcz80_0 w27 gb102 0 (.int .i64 a0_0) BK102
      pxh_ hcz80_1 w27 gb102 1 (.int .i64 a0_1) BK102
      pxh_ hcz80_2 w27 gb102 2 (.int .i64 a0_2) BK102
      pxh_ hcz80_3 w27 gb102 3 (.int .i64 a0_3) BK102
      pxh_ hcz80_4 w27 gb102 4 (.int .i64 a0_4) BK102
      pxh_ hcz80_5 w27 gb102 5 (.int .i64 a0_5) BK102
      pxh_ hcz80_6 w27 gb102 6 (.int .i64 a0_6) BK102
      pxh_ hcz80_7 w27 gb102 7 (.int .i64 a0_7) BK102
      pxh_ hcz80_8 w27 gb102 8 (.int .i64 a0_8) BK102
      pxh_ hcz80_9 w27 gb102 9 (.int .i64 a0_9) BK102
      pxh_ hcz80_10 w27 gb102 10 (.int .i64 a0_10) BK102
      pxh_ hcz80_11 w27 gb102 11 (.string a0_11) BK102
      pxh_ hcz80_12 w27 gb102 12 (.string a0_12) BK102
      pxh_ hcz80_13 w27 gb102 13 (.string a0_13) BK102
      pxf_ hfz80_0 BK102 0
      pxf_ hfz80_1 BK102 1
      pxf_ hfz80_2 BK102 2
      pxf_ hfz80_3 BK102 3
      pxf_ hfz80_4 BK102 4
      pxf_ hfz80_5 BK102 5
      pxf_ hfz80_6 BK102 6
      pxf_ hfz80_7 BK102 7
      pxf_ hfz80_8 BK102 8
      pxf_ hfz80_9 BK102 9
      pxf_ hfz80_10 BK102 10
      pxf_ hfz80_11 BK102 11
      pxf_ hfz80_12 BK102 12
      pxf_ hfz80_13 BK102 13
      go_wp2_with (first | ((with_reducible refine gate_callee (f := 11) rfl ?_); refine goesL_ (some 23) rfl rfl Try.func11 (by kernel_rfl) rfl pxA46_ rfl (by (try simp only [List.map_toArray, List.map_cons, List.map_nil]); first | done | rfl | (simp only [List.length_drop, List.length_take]; rfl)) ?_; (with_reducible refine (copyholdlaw15_short.calls a0_6 a0_7 a0_8 a0_9 a0_10 a0_11 a0_12 a0_13 false _ A28.out).mono ?_); rintro e w81 ⟨rfl, hb⟩; refine ⟨_, rfl, ?_⟩; have n0_ := Aside0.mk (blk_below (g := gb101) (o := .cells pxA1_ 39 (0, 0)) (by (with_reducible repeat (first | refine blk_drewN ?_ _ | refine blk_drew ?_ | refine blk_alloc ?_ _)); exact BK101.out) hb); have n1_ := Aside0.mk (blk_below (g := gb102) (o := .cells pxA30_ 32 (0, 0)) (by (with_reducible repeat (first | refine blk_drewN ?_ _ | refine blk_drew ?_ | refine blk_alloc ?_ _)); exact BK102.out) hb); have n2_ := Aside0.mk (blk_below (g := gb103) (o := .cells pxA28_ 32 (0, 0)) (by (with_reducible repeat (first | refine blk_drewN ?_ _ | refine blk_drew ?_ | refine blk_alloc ?_ _)); exact BK103.out) hb); have n3_ := Aside0.mk (blk_below (g := gb104) (o := .cells pxA33_ 37 (0, 0)) (by (with_reducible repeat (first | refine blk_drewN ?_ _ | refine blk_drew ?_ | refine blk_alloc ?_ _)); exact BK104.out) hb); have n4_ := Aside0.mk (blk_below (g := gb105) (o := .cells pxA34_ 37 (0, 0)) (by (with_reducible repeat (first | refine blk_drewN ?_ _ | refine blk_drew ?_ | refine blk_alloc ?_ _)); exact BK105.out) hb); have n5_ := Aside0.mk (below_step (by repeat (first | (with_reducible first | exact HB.out | apply below_alloc | apply pw_below_drewN | apply below_drew1 | refine below_set ?_ GE101.out | refine below_set ?_ GE102.out | refine below_set ?_ GE103.out | refine below_set ?_ GE104.out | refine below_set ?_ GE105.out) | exact HB.out)) hb); clear BK101; clear BK102; clear BK103; clear BK104; clear BK105; clear HB; have BK101 := n0_; have BK102 := n1_; have BK103 := n2_; have BK104 := n3_; have BK105 := n4_; have HB := n5_; clear n0_ n1_ n2_ n3_ n4_ n5_; (try clear hb); (try clear hb2); (try clear hk); (try clear hi)))
      go_meet
      pxL0_
  case rest =>
    clear HC3
    try clear c1
    try clear c2
    try clear p2
    try clear c3
    try clear c4
    try clear c5
    try clear c6
    try clear p6
    try clear c7
    try clear c10
    try clear c11
    try clear c12
    try clear c16
    try clear c17
    try clear c18
    try clear c22
    try clear c23
    try clear c24
    try clear c25
    try clear c29
    try clear c31
    try clear c32
    try clear c32b0
    try clear c33
    try clear c34
    try clear c35
    try clear c36
    try clear c39
    try clear c40
    try clear c41
    try clear c44
    try clear c45
    try clear c47
    try clear c49
    try clear c50
    try clear c51
    try clear c52
    try clear c55
    try clear c56
    try clear c57
    try clear c60
    try clear c61
    try clear c63
    try clear p64
    try clear c65
    try clear c66
    try clear c67
    try clear c68
    try clear c71
    try clear c72
    try clear c73
    try clear c76
    try clear c77
    try clear c78
    try clear c79
    try clear hcz13_0
    try clear hcz13_1
    try clear hcz13_10
    try clear hcz13_11
    try clear hcz13_12
    try clear hcz13_13
    try clear hcz13_2
    try clear hcz13_3
    try clear hcz13_4
    try clear hcz13_5
    try clear hcz13_6
    try clear hcz13_7
    try clear hcz13_8
    try clear hcz13_9
    try clear hcz14_0
    try clear hcz14_1
    try clear hcz14_10
    try clear hcz14_11
    try clear hcz14_12
    try clear hcz14_13
    try clear hcz14_14
    try clear hcz14_15
    try clear hcz14_16
    try clear hcz14_17
    try clear hcz14_18
    try clear hcz14_19
    try clear hcz14_2
    try clear hcz14_20
    try clear hcz14_21
    try clear hcz14_22
    try clear hcz14_23
    try clear hcz14_24
    try clear hcz14_25
    try clear hcz14_26
    try clear hcz14_27
    try clear hcz14_28
    try clear hcz14_29
    try clear hcz14_3
    try clear hcz14_30
    try clear hcz14_31
    try clear hcz14_32
    try clear hcz14_33
    try clear hcz14_34
    try clear hcz14_35
    try clear hcz14_36
    try clear hcz14_37
    try clear hcz14_38
    try clear hcz14_39
    try clear hcz14_4
    try clear hcz14_40
    try clear hcz14_41
    try clear hcz14_42
    try clear hcz14_43
    try clear hcz14_44
    try clear hcz14_45
    try clear hcz14_46
    try clear hcz14_47
    try clear hcz14_48
    try clear hcz14_49
    try clear hcz14_5
    try clear hcz14_6
    try clear hcz14_7
    try clear hcz14_8
    try clear hcz14_9
    try clear hcz19_0
    try clear hcz19_1
    try clear hcz19_10
    try clear hcz19_2
    try clear hcz19_3
    try clear hcz19_4
    try clear hcz19_5
    try clear hcz19_6
    try clear hcz19_7
    try clear hcz19_8
    try clear hcz19_9
    try clear hcz20_0
    try clear hcz20_1
    try clear hcz20_10
    try clear hcz20_11
    try clear hcz20_12
    try clear hcz20_13
    try clear hcz20_14
    try clear hcz20_15
    try clear hcz20_16
    try clear hcz20_17
    try clear hcz20_18
    try clear hcz20_19
    try clear hcz20_2
    try clear hcz20_20
    try clear hcz20_21
    try clear hcz20_22
    try clear hcz20_23
    try clear hcz20_24
    try clear hcz20_25
    try clear hcz20_26
    try clear hcz20_27
    try clear hcz20_28
    try clear hcz20_29
    try clear hcz20_3
    try clear hcz20_30
    try clear hcz20_31
    try clear hcz20_32
    try clear hcz20_33
    try clear hcz20_34
    try clear hcz20_35
    try clear hcz20_36
    try clear hcz20_37
    try clear hcz20_38
    try clear hcz20_39
    try clear hcz20_4
    try clear hcz20_40
    try clear hcz20_41
    try clear hcz20_42
    try clear hcz20_43
    try clear hcz20_44
    try clear hcz20_45
    try clear hcz20_46
    try clear hcz20_47
    try clear hcz20_48
    try clear hcz20_49
    try clear hcz20_5
    try clear hcz20_6
    try clear hcz20_7
    try clear hcz20_8
    try clear hcz20_9
    try clear hcz26_0
    try clear hcz26_1
    try clear hcz26_10
    try clear hcz26_2
    try clear hcz26_3
    try clear hcz26_4
    try clear hcz26_5
    try clear hcz26_6
    try clear hcz26_7
    try clear hcz26_8
    try clear hcz26_9
    try clear hcz37_0
    try clear hcz37_1
    try clear hcz37_10
    try clear hcz37_11
    try clear hcz37_12
    try clear hcz37_13
    try clear hcz37_2
    try clear hcz37_3
    try clear hcz37_4
    try clear hcz37_5
    try clear hcz37_6
    try clear hcz37_7
    try clear hcz37_8
    try clear hcz37_9
    try clear hcz42_0
    try clear hcz42_1
    try clear hcz42_10
    try clear hcz42_11
    try clear hcz42_12
    try clear hcz42_13
    try clear hcz42_2
    try clear hcz42_3
    try clear hcz42_4
    try clear hcz42_5
    try clear hcz42_6
    try clear hcz42_7
    try clear hcz42_8
    try clear hcz42_9
    try clear hcz46_0
    try clear hcz46_1
    try clear hcz46_10
    try clear hcz46_2
    try clear hcz46_3
    try clear hcz46_4
    try clear hcz46_5
    try clear hcz46_6
    try clear hcz46_7
    try clear hcz46_8
    try clear hcz46_9
    try clear hcz48_0
    try clear hcz48_1
    try clear hcz48_10
    try clear hcz48_2
    try clear hcz48_3
    try clear hcz48_4
    try clear hcz48_5
    try clear hcz48_6
    try clear hcz48_7
    try clear hcz48_8
    try clear hcz48_9
    try clear hcz53_0
    try clear hcz53_1
    try clear hcz53_10
    try clear hcz53_11
    try clear hcz53_12
    try clear hcz53_13
    try clear hcz53_2
    try clear hcz53_3
    try clear hcz53_4
    try clear hcz53_5
    try clear hcz53_6
    try clear hcz53_7
    try clear hcz53_8
    try clear hcz53_9
    try clear hcz58_0
    try clear hcz58_1
    try clear hcz58_10
    try clear hcz58_11
    try clear hcz58_12
    try clear hcz58_13
    try clear hcz58_2
    try clear hcz58_3
    try clear hcz58_4
    try clear hcz58_5
    try clear hcz58_6
    try clear hcz58_7
    try clear hcz58_8
    try clear hcz58_9
    try clear hcz5_0
    try clear hcz5_1
    try clear hcz5_10
    try clear hcz5_11
    try clear hcz5_12
    try clear hcz5_13
    try clear hcz5_14
    try clear hcz5_15
    try clear hcz5_16
    try clear hcz5_17
    try clear hcz5_18
    try clear hcz5_19
    try clear hcz5_2
    try clear hcz5_20
    try clear hcz5_21
    try clear hcz5_22
    try clear hcz5_23
    try clear hcz5_24
    try clear hcz5_25
    try clear hcz5_26
    try clear hcz5_27
    try clear hcz5_28
    try clear hcz5_29
    try clear hcz5_3
    try clear hcz5_30
    try clear hcz5_31
    try clear hcz5_32
    try clear hcz5_33
    try clear hcz5_34
    try clear hcz5_35
    try clear hcz5_36
    try clear hcz5_37
    try clear hcz5_38
    try clear hcz5_39
    try clear hcz5_4
    try clear hcz5_40
    try clear hcz5_41
    try clear hcz5_42
    try clear hcz5_43
    try clear hcz5_44
    try clear hcz5_45
    try clear hcz5_46
    try clear hcz5_47
    try clear hcz5_48
    try clear hcz5_49
    try clear hcz5_5
    try clear hcz5_6
    try clear hcz5_7
    try clear hcz5_8
    try clear hcz5_9
    try clear hcz62_0
    try clear hcz62_1
    try clear hcz62_10
    try clear hcz62_2
    try clear hcz62_3
    try clear hcz62_4
    try clear hcz62_5
    try clear hcz62_6
    try clear hcz62_7
    try clear hcz62_8
    try clear hcz62_9
    try clear hcz64_0
    try clear hcz64_1
    try clear hcz64_10
    try clear hcz64_2
    try clear hcz64_3
    try clear hcz64_4
    try clear hcz64_5
    try clear hcz64_6
    try clear hcz64_7
    try clear hcz64_8
    try clear hcz64_9
    try clear hcz69_0
    try clear hcz69_1
    try clear hcz69_10
    try clear hcz69_11
    try clear hcz69_12
    try clear hcz69_13
    try clear hcz69_2
    try clear hcz69_3
    try clear hcz69_4
    try clear hcz69_5
    try clear hcz69_6
    try clear hcz69_7
    try clear hcz69_8
    try clear hcz69_9
    try clear hcz74_0
    try clear hcz74_1
    try clear hcz74_10
    try clear hcz74_11
    try clear hcz74_12
    try clear hcz74_13
    try clear hcz74_2
    try clear hcz74_3
    try clear hcz74_4
    try clear hcz74_5
    try clear hcz74_6
    try clear hcz74_7
    try clear hcz74_8
    try clear hcz74_9
    try clear hcz80_0
    try clear hcz80_1
    try clear hcz80_10
    try clear hcz80_11
    try clear hcz80_12
    try clear hcz80_13
    try clear hcz80_2
    try clear hcz80_3
    try clear hcz80_4
    try clear hcz80_5
    try clear hcz80_6
    try clear hcz80_7
    try clear hcz80_8
    try clear hcz80_9
    try clear hcz8_0
    try clear hcz8_1
    try clear hcz8_10
    try clear hcz8_11
    try clear hcz8_12
    try clear hcz8_13
    try clear hcz8_2
    try clear hcz8_3
    try clear hcz8_4
    try clear hcz8_5
    try clear hcz8_6
    try clear hcz8_7
    try clear hcz8_8
    try clear hcz8_9
    try clear hcz9_0
    try clear hcz9_1
    try clear hcz9_10
    try clear hcz9_11
    try clear hcz9_12
    try clear hcz9_13
    try clear hcz9_14
    try clear hcz9_15
    try clear hcz9_16
    try clear hcz9_17
    try clear hcz9_18
    try clear hcz9_19
    try clear hcz9_2
    try clear hcz9_20
    try clear hcz9_21
    try clear hcz9_22
    try clear hcz9_23
    try clear hcz9_24
    try clear hcz9_25
    try clear hcz9_26
    try clear hcz9_27
    try clear hcz9_28
    try clear hcz9_29
    try clear hcz9_3
    try clear hcz9_30
    try clear hcz9_31
    try clear hcz9_32
    try clear hcz9_33
    try clear hcz9_34
    try clear hcz9_35
    try clear hcz9_36
    try clear hcz9_37
    try clear hcz9_38
    try clear hcz9_39
    try clear hcz9_4
    try clear hcz9_40
    try clear hcz9_41
    try clear hcz9_42
    try clear hcz9_43
    try clear hcz9_44
    try clear hcz9_45
    try clear hcz9_46
    try clear hcz9_47
    try clear hcz9_48
    try clear hcz9_49
    try clear hcz9_5
    try clear hcz9_6
    try clear hcz9_7
    try clear hcz9_8
    try clear hcz9_9
    try clear hfz13_0
    try clear hfz13_1
    try clear hfz13_10
    try clear hfz13_11
    try clear hfz13_12
    try clear hfz13_13
    try clear hfz13_2
    try clear hfz13_3
    try clear hfz13_4
    try clear hfz13_5
    try clear hfz13_6
    try clear hfz13_7
    try clear hfz13_8
    try clear hfz13_9
    try clear hfz14_0
    try clear hfz14_1
    try clear hfz14_10
    try clear hfz14_11
    try clear hfz14_12
    try clear hfz14_13
    try clear hfz14_14
    try clear hfz14_15
    try clear hfz14_16
    try clear hfz14_17
    try clear hfz14_18
    try clear hfz14_19
    try clear hfz14_2
    try clear hfz14_20
    try clear hfz14_21
    try clear hfz14_22
    try clear hfz14_23
    try clear hfz14_24
    try clear hfz14_25
    try clear hfz14_26
    try clear hfz14_27
    try clear hfz14_28
    try clear hfz14_29
    try clear hfz14_3
    try clear hfz14_30
    try clear hfz14_31
    try clear hfz14_32
    try clear hfz14_33
    try clear hfz14_34
    try clear hfz14_35
    try clear hfz14_36
    try clear hfz14_37
    try clear hfz14_38
    try clear hfz14_39
    try clear hfz14_4
    try clear hfz14_40
    try clear hfz14_41
    try clear hfz14_42
    try clear hfz14_43
    try clear hfz14_44
    try clear hfz14_45
    try clear hfz14_46
    try clear hfz14_47
    try clear hfz14_48
    try clear hfz14_49
    try clear hfz14_5
    try clear hfz14_6
    try clear hfz14_7
    try clear hfz14_8
    try clear hfz14_9
    try clear hfz19_0
    try clear hfz19_1
    try clear hfz19_10
    try clear hfz19_2
    try clear hfz19_3
    try clear hfz19_4
    try clear hfz19_5
    try clear hfz19_6
    try clear hfz19_7
    try clear hfz19_8
    try clear hfz19_9
    try clear hfz20_0
    try clear hfz20_1
    try clear hfz20_10
    try clear hfz20_11
    try clear hfz20_12
    try clear hfz20_13
    try clear hfz20_14
    try clear hfz20_15
    try clear hfz20_16
    try clear hfz20_17
    try clear hfz20_18
    try clear hfz20_19
    try clear hfz20_2
    try clear hfz20_20
    try clear hfz20_21
    try clear hfz20_22
    try clear hfz20_23
    try clear hfz20_24
    try clear hfz20_25
    try clear hfz20_26
    try clear hfz20_27
    try clear hfz20_28
    try clear hfz20_29
    try clear hfz20_3
    try clear hfz20_30
    try clear hfz20_31
    try clear hfz20_32
    try clear hfz20_33
    try clear hfz20_34
    try clear hfz20_35
    try clear hfz20_36
    try clear hfz20_37
    try clear hfz20_38
    try clear hfz20_39
    try clear hfz20_4
    try clear hfz20_40
    try clear hfz20_41
    try clear hfz20_42
    try clear hfz20_43
    try clear hfz20_44
    try clear hfz20_45
    try clear hfz20_46
    try clear hfz20_47
    try clear hfz20_48
    try clear hfz20_49
    try clear hfz20_5
    try clear hfz20_6
    try clear hfz20_7
    try clear hfz20_8
    try clear hfz20_9
    try clear hfz26_0
    try clear hfz26_1
    try clear hfz26_10
    try clear hfz26_2
    try clear hfz26_3
    try clear hfz26_4
    try clear hfz26_5
    try clear hfz26_6
    try clear hfz26_7
    try clear hfz26_8
    try clear hfz26_9
    try clear hfz37_0
    try clear hfz37_1
    try clear hfz37_10
    try clear hfz37_11
    try clear hfz37_12
    try clear hfz37_13
    try clear hfz37_2
    try clear hfz37_3
    try clear hfz37_4
    try clear hfz37_5
    try clear hfz37_6
    try clear hfz37_7
    try clear hfz37_8
    try clear hfz37_9
    try clear hfz42_0
    try clear hfz42_1
    try clear hfz42_10
    try clear hfz42_11
    try clear hfz42_12
    try clear hfz42_13
    try clear hfz42_2
    try clear hfz42_3
    try clear hfz42_4
    try clear hfz42_5
    try clear hfz42_6
    try clear hfz42_7
    try clear hfz42_8
    try clear hfz42_9
    try clear hfz46_0
    try clear hfz46_1
    try clear hfz46_10
    try clear hfz46_2
    try clear hfz46_3
    try clear hfz46_4
    try clear hfz46_5
    try clear hfz46_6
    try clear hfz46_7
    try clear hfz46_8
    try clear hfz46_9
    try clear hfz48_0
    try clear hfz48_1
    try clear hfz48_10
    try clear hfz48_2
    try clear hfz48_3
    try clear hfz48_4
    try clear hfz48_5
    try clear hfz48_6
    try clear hfz48_7
    try clear hfz48_8
    try clear hfz48_9
    try clear hfz53_0
    try clear hfz53_1
    try clear hfz53_10
    try clear hfz53_11
    try clear hfz53_12
    try clear hfz53_13
    try clear hfz53_2
    try clear hfz53_3
    try clear hfz53_4
    try clear hfz53_5
    try clear hfz53_6
    try clear hfz53_7
    try clear hfz53_8
    try clear hfz53_9
    try clear hfz58_0
    try clear hfz58_1
    try clear hfz58_10
    try clear hfz58_11
    try clear hfz58_12
    try clear hfz58_13
    try clear hfz58_2
    try clear hfz58_3
    try clear hfz58_4
    try clear hfz58_5
    try clear hfz58_6
    try clear hfz58_7
    try clear hfz58_8
    try clear hfz58_9
    try clear hfz5_0
    try clear hfz5_1
    try clear hfz5_10
    try clear hfz5_11
    try clear hfz5_12
    try clear hfz5_13
    try clear hfz5_14
    try clear hfz5_15
    try clear hfz5_16
    try clear hfz5_17
    try clear hfz5_18
    try clear hfz5_19
    try clear hfz5_2
    try clear hfz5_20
    try clear hfz5_21
    try clear hfz5_22
    try clear hfz5_23
    try clear hfz5_24
    try clear hfz5_25
    try clear hfz5_26
    try clear hfz5_27
    try clear hfz5_28
    try clear hfz5_29
    try clear hfz5_3
    try clear hfz5_30
    try clear hfz5_31
    try clear hfz5_32
    try clear hfz5_33
    try clear hfz5_34
    try clear hfz5_35
    try clear hfz5_36
    try clear hfz5_37
    try clear hfz5_38
    try clear hfz5_39
    try clear hfz5_4
    try clear hfz5_40
    try clear hfz5_41
    try clear hfz5_42
    try clear hfz5_43
    try clear hfz5_44
    try clear hfz5_45
    try clear hfz5_46
    try clear hfz5_47
    try clear hfz5_48
    try clear hfz5_49
    try clear hfz5_5
    try clear hfz5_6
    try clear hfz5_7
    try clear hfz5_8
    try clear hfz5_9
    try clear hfz62_0
    try clear hfz62_1
    try clear hfz62_10
    try clear hfz62_2
    try clear hfz62_3
    try clear hfz62_4
    try clear hfz62_5
    try clear hfz62_6
    try clear hfz62_7
    try clear hfz62_8
    try clear hfz62_9
    try clear hfz64_0
    try clear hfz64_1
    try clear hfz64_10
    try clear hfz64_2
    try clear hfz64_3
    try clear hfz64_4
    try clear hfz64_5
    try clear hfz64_6
    try clear hfz64_7
    try clear hfz64_8
    try clear hfz64_9
    try clear hfz69_0
    try clear hfz69_1
    try clear hfz69_10
    try clear hfz69_11
    try clear hfz69_12
    try clear hfz69_13
    try clear hfz69_2
    try clear hfz69_3
    try clear hfz69_4
    try clear hfz69_5
    try clear hfz69_6
    try clear hfz69_7
    try clear hfz69_8
    try clear hfz69_9
    try clear hfz74_0
    try clear hfz74_1
    try clear hfz74_10
    try clear hfz74_11
    try clear hfz74_12
    try clear hfz74_13
    try clear hfz74_2
    try clear hfz74_3
    try clear hfz74_4
    try clear hfz74_5
    try clear hfz74_6
    try clear hfz74_7
    try clear hfz74_8
    try clear hfz74_9
    try clear hfz80_0
    try clear hfz80_1
    try clear hfz80_10
    try clear hfz80_11
    try clear hfz80_12
    try clear hfz80_13
    try clear hfz80_2
    try clear hfz80_3
    try clear hfz80_4
    try clear hfz80_5
    try clear hfz80_6
    try clear hfz80_7
    try clear hfz80_8
    try clear hfz80_9
    try clear hfz8_0
    try clear hfz8_1
    try clear hfz8_10
    try clear hfz8_11
    try clear hfz8_12
    try clear hfz8_13
    try clear hfz8_2
    try clear hfz8_3
    try clear hfz8_4
    try clear hfz8_5
    try clear hfz8_6
    try clear hfz8_7
    try clear hfz8_8
    try clear hfz8_9
    try clear hfz9_0
    try clear hfz9_1
    try clear hfz9_10
    try clear hfz9_11
    try clear hfz9_12
    try clear hfz9_13
    try clear hfz9_14
    try clear hfz9_15
    try clear hfz9_16
    try clear hfz9_17
    try clear hfz9_18
    try clear hfz9_19
    try clear hfz9_2
    try clear hfz9_20
    try clear hfz9_21
    try clear hfz9_22
    try clear hfz9_23
    try clear hfz9_24
    try clear hfz9_25
    try clear hfz9_26
    try clear hfz9_27
    try clear hfz9_28
    try clear hfz9_29
    try clear hfz9_3
    try clear hfz9_30
    try clear hfz9_31
    try clear hfz9_32
    try clear hfz9_33
    try clear hfz9_34
    try clear hfz9_35
    try clear hfz9_36
    try clear hfz9_37
    try clear hfz9_38
    try clear hfz9_39
    try clear hfz9_4
    try clear hfz9_40
    try clear hfz9_41
    try clear hfz9_42
    try clear hfz9_43
    try clear hfz9_44
    try clear hfz9_45
    try clear hfz9_46
    try clear hfz9_47
    try clear hfz9_48
    try clear hfz9_49
    try clear hfz9_5
    try clear hfz9_6
    try clear hfz9_7
    try clear hfz9_8
    try clear hfz9_9
    obtain ⟨kq, x54_2, rfl, HA, HJ2, BK101, BK102, BK103, BK104, BK105, HB⟩ := hcut
    cases kq with
    | zero => exact absurd HA.out (by simp [copyholdlaw15_WireApart.j0])
    | succ kj2 =>
      have H := HA.out
      clear HA
      simp only [copyholdlaw15_WireApart.j0] at H
      by_cases c82 : x54_2 = true
      · subst c82
        have H1 : (some t106) = some r := by rw [if_pos rfl] at H; exact H
        clear H
        have H := H1
        clear H1
        obtain rfl := Option.some.inj H
        go_wp2
        go_ret
        pxL2_
      · replace c82 := Bool.eq_false_iff.mpr c82
        subst c82
        have H1 : (copyholdlaw15_WireApart.l0 kj2 t106 0 0 a0_0 a0_1 a0_2 a0_3 a0_4 a0_5 a0_6 a0_7 a0_8 a0_9 a0_10 a0_11 a0_12 a0_13 a0_14 a0_15 a0_16 a0_17 a0_18 a0_19 a0_20 a0_21 a0_22 a0_23 a0_24 a0_25 a0_26 a0_27 a0_28 a0_29 a0_30 a0_31 a0_32 a0_33 a0_34 a0_35 a0_36 a0_37 l0_38 a0_39 a0_40 a0_41 a0_42 a0_43 a0_44 a0_45 a0_46 a0_47 a0_48 l0_49) = some r := by rw [if_neg (show ¬ (false = true) by decide)] at H; exact H
        clear H
        have H := H1
        clear H1
        have H' := Aside0.mk H
        clear H
        go_wp2
        go_loopg [8, 9] kj2 (fun kq v8 v9 w' => ∃ (x8_2 : Int) (x9_2 : Int), v8 = .int .i64 x8_2 ∧ v9 = .int .i64 x9_2 ∧ Aside0 (copyholdlaw15_WireApart.l0 kq t106 x8_2 x9_2 a0_0 a0_1 a0_2 a0_3 a0_4 a0_5 a0_6 a0_7 a0_8 a0_9 a0_10 a0_11 a0_12 a0_13 a0_14 a0_15 a0_16 a0_17 a0_18 a0_19 a0_20 a0_21 a0_22 a0_23 a0_24 a0_25 a0_26 a0_27 a0_28 a0_29 a0_30 a0_31 a0_32 a0_33 a0_34 a0_35 a0_36 a0_37 l0_38 a0_39 a0_40 a0_41 a0_42 a0_43 a0_44 a0_45 a0_46 a0_47 a0_48 l0_49 = some r) ∧ Aside0 (kq ≤ kj2) ∧ Aside0 (w'.heap[gb101]? = some (.cells pxA0_ 39 (0, 0))) ∧ Aside0 (w'.heap[gb102]? = some (.cells pxA30_ 32 (0, 0))) ∧ Aside0 (w'.heap[gb103]? = some (.cells pxA28_ 32 (0, 0))) ∧ Aside0 (w'.heap[gb104]? = some (.cells pxA31_ 37 (0, 0))) ∧ Aside0 (w'.heap[gb105]? = some (.cells pxA32_ 37 (0, 0))) ∧ Aside0 (Below w.heap.size w w'))
        case atStart => exact ⟨(0), (0), (by first | rfl | (simp; done) | (simp [*]; done)), (by first | rfl | (simp; done) | (simp [*]; done)), H', ⟨Nat.le_refl _⟩, ⟨by (with_reducible repeat (first | refine blk_drewN ?_ _ | refine blk_drew ?_ | refine blk_alloc ?_ _)); exact BK101.out⟩, ⟨by (with_reducible repeat (first | refine blk_drewN ?_ _ | refine blk_drew ?_ | refine blk_alloc ?_ _)); exact BK102.out⟩, ⟨by (with_reducible repeat (first | refine blk_drewN ?_ _ | refine blk_drew ?_ | refine blk_alloc ?_ _)); exact BK103.out⟩, ⟨by (with_reducible repeat (first | refine blk_drewN ?_ _ | refine blk_drew ?_ | refine blk_alloc ?_ _)); exact BK104.out⟩, ⟨by (with_reducible repeat (first | refine blk_drewN ?_ _ | refine blk_drew ?_ | refine blk_alloc ?_ _)); exact BK105.out⟩, ⟨by repeat (first | (with_reducible first | exact HB.out | apply below_alloc | apply pw_below_drewN | apply below_drew1 | refine below_set ?_ GE101.out | refine below_set ?_ GE102.out | refine below_set ?_ GE103.out | refine below_set ?_ GE104.out | refine below_set ?_ GE105.out) | exact HB.out)⟩⟩
        case round =>
          clear H'
          try clear p2
          try clear c8
          try clear c82
          try clear hcz5_0
          try clear hcz5_1
          try clear hcz5_10
          try clear hcz5_11
          try clear hcz5_12
          try clear hcz5_13
          try clear hcz5_14
          try clear hcz5_15
          try clear hcz5_16
          try clear hcz5_17
          try clear hcz5_18
          try clear hcz5_19
          try clear hcz5_2
          try clear hcz5_20
          try clear hcz5_21
          try clear hcz5_22
          try clear hcz5_23
          try clear hcz5_24
          try clear hcz5_25
          try clear hcz5_26
          try clear hcz5_27
          try clear hcz5_28
          try clear hcz5_29
          try clear hcz5_3
          try clear hcz5_30
          try clear hcz5_31
          try clear hcz5_32
          try clear hcz5_33
          try clear hcz5_34
          try clear hcz5_35
          try clear hcz5_36
          try clear hcz5_37
          try clear hcz5_38
          try clear hcz5_39
          try clear hcz5_4
          try clear hcz5_40
          try clear hcz5_41
          try clear hcz5_42
          try clear hcz5_43
          try clear hcz5_44
          try clear hcz5_45
          try clear hcz5_46
          try clear hcz5_47
          try clear hcz5_48
          try clear hcz5_49
          try clear hcz5_5
          try clear hcz5_6
          try clear hcz5_7
          try clear hcz5_8
          try clear hcz5_9
          try clear hcz62_0
          try clear hcz62_1
          try clear hcz62_10
          try clear hcz62_2
          try clear hcz62_3
          try clear hcz62_4
          try clear hcz62_5
          try clear hcz62_6
          try clear hcz62_7
          try clear hcz62_8
          try clear hcz62_9
          try clear hcz64_0
          try clear hcz64_1
          try clear hcz64_10
          try clear hcz64_2
          try clear hcz64_3
          try clear hcz64_4
          try clear hcz64_5
          try clear hcz64_6
          try clear hcz64_7
          try clear hcz64_8
          try clear hcz64_9
          try clear hcz69_0
          try clear hcz69_1
          try clear hcz69_10
          try clear hcz69_11
          try clear hcz69_12
          try clear hcz69_13
          try clear hcz69_2
          try clear hcz69_3
          try clear hcz69_4
          try clear hcz69_5
          try clear hcz69_6
          try clear hcz69_7
          try clear hcz69_8
          try clear hcz69_9
          try clear hcz74_0
          try clear hcz74_1
          try clear hcz74_10
          try clear hcz74_11
          try clear hcz74_12
          try clear hcz74_13
          try clear hcz74_2
          try clear hcz74_3
          try clear hcz74_4
          try clear hcz74_5
          try clear hcz74_6
          try clear hcz74_7
          try clear hcz74_8
          try clear hcz74_9
          try clear hcz80_0
          try clear hcz80_1
          try clear hcz80_10
          try clear hcz80_11
          try clear hcz80_12
          try clear hcz80_13
          try clear hcz80_2
          try clear hcz80_3
          try clear hcz80_4
          try clear hcz80_5
          try clear hcz80_6
          try clear hcz80_7
          try clear hcz80_8
          try clear hcz80_9
          try clear hcz8_0
          try clear hcz8_1
          try clear hcz8_10
          try clear hcz8_11
          try clear hcz8_12
          try clear hcz8_13
          try clear hcz8_2
          try clear hcz8_3
          try clear hcz8_4
          try clear hcz8_5
          try clear hcz8_6
          try clear hcz8_7
          try clear hcz8_8
          try clear hcz8_9
          try clear hcz9_0
          try clear hcz9_1
          try clear hcz9_10
          try clear hcz9_11
          try clear hcz9_12
          try clear hcz9_13
          try clear hcz9_14
          try clear hcz9_15
          try clear hcz9_16
          try clear hcz9_17
          try clear hcz9_18
          try clear hcz9_19
          try clear hcz9_2
          try clear hcz9_20
          try clear hcz9_21
          try clear hcz9_22
          try clear hcz9_23
          try clear hcz9_24
          try clear hcz9_25
          try clear hcz9_26
          try clear hcz9_27
          try clear hcz9_28
          try clear hcz9_29
          try clear hcz9_3
          try clear hcz9_30
          try clear hcz9_31
          try clear hcz9_32
          try clear hcz9_33
          try clear hcz9_34
          try clear hcz9_35
          try clear hcz9_36
          try clear hcz9_37
          try clear hcz9_38
          try clear hcz9_39
          try clear hcz9_4
          try clear hcz9_40
          try clear hcz9_41
          try clear hcz9_42
          try clear hcz9_43
          try clear hcz9_44
          try clear hcz9_45
          try clear hcz9_46
          try clear hcz9_47
          try clear hcz9_48
          try clear hcz9_49
          try clear hcz9_5
          try clear hcz9_6
          try clear hcz9_7
          try clear hcz9_8
          try clear hcz9_9
          try clear hfz13_0
          try clear hfz13_1
          try clear hfz13_10
          try clear hfz13_11
          try clear hfz13_12
          try clear hfz13_13
          try clear hfz13_2
          try clear hfz13_3
          try clear hfz13_4
          try clear hfz13_5
          try clear hfz13_6
          try clear hfz13_7
          try clear hfz13_8
          try clear hfz13_9
          try clear hfz14_0
          try clear hfz14_1
          try clear hfz14_10
          try clear hfz14_11
          try clear hfz14_12
          try clear hfz14_13
          try clear hfz14_14
          try clear hfz14_15
          try clear hfz14_16
          try clear hfz14_17
          try clear hfz14_18
          try clear hfz14_19
          try clear hfz14_2
          try clear hfz14_20
          try clear hfz14_21
          try clear hfz14_22
          try clear hfz14_23
          try clear hfz14_24
          try clear hfz14_25
          try clear hfz14_26
          try clear hfz14_27
          try clear hfz14_28
          try clear hfz14_29
          try clear hfz14_3
          try clear hfz14_30
          try clear hfz14_31
          try clear hfz14_32
          try clear hfz14_33
          try clear hfz14_34
          try clear hfz14_35
          try clear hfz14_36
          try clear hfz14_37
          try clear hfz14_38
          try clear hfz14_39
          try clear hfz14_4
          try clear hfz14_40
          try clear hfz14_41
          try clear hfz14_42
          try clear hfz14_43
          try clear hfz14_44
          try clear hfz14_45
          try clear hfz14_46
          try clear hfz14_47
          try clear hfz14_48
          try clear hfz14_49
          try clear hfz14_5
          try clear hfz14_6
          try clear hfz14_7
          try clear hfz14_8
          try clear hfz14_9
          try clear hfz19_0
          try clear hfz19_1
          try clear hfz19_10
          try clear hfz19_2
          try clear hfz19_3
          try clear hfz19_4
          try clear hfz19_5
          try clear hfz19_6
          try clear hfz19_7
          try clear hfz19_8
          try clear hfz19_9
          try clear hfz20_0
          try clear hfz20_1
          try clear hfz20_10
          try clear hfz20_11
          try clear hfz20_12
          try clear hfz20_13
          try clear hfz20_14
          try clear hfz20_15
          try clear hfz20_16
          try clear hfz20_17
          try clear hfz20_18
          try clear hfz20_19
          try clear hfz20_2
          try clear hfz20_20
          try clear hfz20_21
          try clear hfz20_22
          try clear hfz20_23
          try clear hfz20_24
          try clear hfz20_25
          try clear hfz20_26
          try clear hfz20_27
          try clear hfz20_28
          try clear hfz20_29
          try clear hfz20_3
          try clear hfz20_30
          try clear hfz20_31
          try clear hfz20_32
          try clear hfz20_33
          try clear hfz20_34
          try clear hfz20_35
          try clear hfz20_36
          try clear hfz20_37
          try clear hfz20_38
          try clear hfz20_39
          try clear hfz20_4
          try clear hfz20_40
          try clear hfz20_41
          try clear hfz20_42
          try clear hfz20_43
          try clear hfz20_44
          try clear hfz20_45
          try clear hfz20_46
          try clear hfz20_47
          try clear hfz20_48
          try clear hfz20_49
          try clear hfz20_5
          try clear hfz20_6
          try clear hfz20_7
          try clear hfz20_8
          try clear hfz20_9
          try clear hfz26_0
          try clear hfz26_1
          try clear hfz26_10
          try clear hfz26_2
          try clear hfz26_3
          try clear hfz26_4
          try clear hfz26_5
          try clear hfz26_6
          try clear hfz26_7
          try clear hfz26_8
          try clear hfz26_9
          try clear hfz37_0
          try clear hfz37_1
          try clear hfz37_10
          try clear hfz37_11
          try clear hfz37_12
          try clear hfz37_13
          try clear hfz37_2
          try clear hfz37_3
          try clear hfz37_4
          try clear hfz37_5
          try clear hfz37_6
          try clear hfz37_7
          try clear hfz37_8
          try clear hfz37_9
          try clear hfz42_0
          try clear hfz42_1
          try clear hfz42_10
          try clear hfz42_11
          try clear hfz42_12
          try clear hfz42_13
          try clear hfz42_2
          try clear hfz42_3
          try clear hfz42_4
          try clear hfz42_5
          try clear hfz42_6
          try clear hfz42_7
          try clear hfz42_8
          try clear hfz42_9
          try clear hfz46_0
          try clear hfz46_1
          try clear hfz46_10
          try clear hfz46_2
          try clear hfz46_3
          try clear hfz46_4
          try clear hfz46_5
          try clear hfz46_6
          try clear hfz46_7
          try clear hfz46_8
          try clear hfz46_9
          try clear hfz48_0
          try clear hfz48_1
          try clear hfz48_10
          try clear hfz48_2
          try clear hfz48_3
          try clear hfz48_4
          try clear hfz48_5
          try clear hfz48_6
          try clear hfz48_7
          try clear hfz48_8
          try clear hfz48_9
          try clear hfz53_0
          try clear hfz53_1
          try clear hfz53_10
          try clear hfz53_11
          try clear hfz53_12
          try clear hfz53_13
          try clear hfz53_2
          try clear hfz53_3
          try clear hfz53_4
          try clear hfz53_5
          try clear hfz53_6
          try clear hfz53_7
          try clear hfz53_8
          try clear hfz53_9
          try clear hfz58_0
          try clear hfz58_1
          try clear hfz58_10
          try clear hfz58_11
          try clear hfz58_12
          try clear hfz58_13
          try clear hfz58_2
          try clear hfz58_3
          try clear hfz58_4
          try clear hfz58_5
          try clear hfz58_6
          try clear hfz58_7
          try clear hfz58_8
          try clear hfz58_9
          try clear hfz5_0
          try clear hfz5_1
          try clear hfz5_10
          try clear hfz5_11
          try clear hfz5_12
          try clear hfz5_13
          try clear hfz5_14
          try clear hfz5_15
          try clear hfz5_16
          try clear hfz5_17
          try clear hfz5_18
          try clear hfz5_19
          try clear hfz5_2
          try clear hfz5_20
          try clear hfz5_21
          try clear hfz5_22
          try clear hfz5_23
          try clear hfz5_24
          try clear hfz5_25
          try clear hfz5_26
          try clear hfz5_27
          try clear hfz5_28
          try clear hfz5_29
          try clear hfz5_3
          try clear hfz5_30
          try clear hfz5_31
          try clear hfz5_32
          try clear hfz5_33
          try clear hfz5_34
          try clear hfz5_35
          try clear hfz5_36
          try clear hfz5_37
          try clear hfz5_38
          try clear hfz5_39
          try clear hfz5_4
          try clear hfz5_40
          try clear hfz5_41
          try clear hfz5_42
          try clear hfz5_43
          try clear hfz5_44
          try clear hfz5_45
          try clear hfz5_46
          try clear hfz5_47
          try clear hfz5_48
          try clear hfz5_49
          try clear hfz5_5
          try clear hfz5_6
          try clear hfz5_7
          try clear hfz5_8
          try clear hfz5_9
          try clear hfz62_0
          try clear hfz62_1
          try clear hfz62_10
          try clear hfz62_2
          try clear hfz62_3
          try clear hfz62_4
          try clear hfz62_5
          try clear hfz62_6
          try clear hfz62_7
          try clear hfz62_8
          try clear hfz62_9
          try clear hfz64_0
          try clear hfz64_1
          try clear hfz64_10
          try clear hfz64_2
          try clear hfz64_3
          try clear hfz64_4
          try clear hfz64_5
          try clear hfz64_6
          try clear hfz64_7
          try clear hfz64_8
          try clear hfz64_9
          try clear hfz69_0
          try clear hfz69_1
          try clear hfz69_10
          try clear hfz69_11
          try clear hfz69_12
          try clear hfz69_13
          try clear hfz69_2
          try clear hfz69_3
          try clear hfz69_4
          try clear hfz69_5
          try clear hfz69_6
          try clear hfz69_7
          try clear hfz69_8
          try clear hfz69_9
          try clear hfz74_0
          try clear hfz74_1
          try clear hfz74_10
          try clear hfz74_11
          try clear hfz74_12
          try clear hfz74_13
          try clear hfz74_2
          try clear hfz74_3
          try clear hfz74_4
          try clear hfz74_5
          try clear hfz74_6
          try clear hfz74_7
          try clear hfz74_8
          try clear hfz74_9
          try clear hfz80_0
          try clear hfz80_1
          try clear hfz80_10
          try clear hfz80_11
          try clear hfz80_12
          try clear hfz80_13
          try clear hfz80_2
          try clear hfz80_3
          try clear hfz80_4
          try clear hfz80_5
          try clear hfz80_6
          try clear hfz80_7
          try clear hfz80_8
          try clear hfz80_9
          try clear hfz8_0
          try clear hfz8_1
          try clear hfz8_10
          try clear hfz8_11
          try clear hfz8_12
          try clear hfz8_13
          try clear hfz8_2
          try clear hfz8_3
          try clear hfz8_4
          try clear hfz8_5
          try clear hfz8_6
          try clear hfz8_7
          try clear hfz8_8
          try clear hfz8_9
          try clear hfz9_0
          try clear hfz9_1
          try clear hfz9_10
          try clear hfz9_11
          try clear hfz9_12
          try clear hfz9_13
          try clear hfz9_14
          try clear hfz9_15
          try clear hfz9_16
          try clear hfz9_17
          try clear hfz9_18
          try clear hfz9_19
          try clear hfz9_2
          try clear hfz9_20
          try clear hfz9_21
          try clear hfz9_22
          try clear hfz9_23
          try clear hfz9_24
          try clear hfz9_25
          try clear hfz9_26
          try clear hfz9_27
          try clear hfz9_28
          try clear hfz9_29
          try clear hfz9_3
          try clear hfz9_30
          try clear hfz9_31
          try clear hfz9_32
          try clear hfz9_33
          try clear hfz9_34
          try clear hfz9_35
          try clear hfz9_36
          try clear hfz9_37
          try clear hfz9_38
          try clear hfz9_39
          try clear hfz9_4
          try clear hfz9_40
          try clear hfz9_41
          try clear hfz9_42
          try clear hfz9_43
          try clear hfz9_44
          try clear hfz9_45
          try clear hfz9_46
          try clear hfz9_47
          try clear hfz9_48
          try clear hfz9_49
          try clear hfz9_5
          try clear hfz9_6
          try clear hfz9_7
          try clear hfz9_8
          try clear hfz9_9
          obtain ⟨x8_2, x9_2, rfl, rfl, HA, HK2, BK101, BK102, BK103, BK104, BK105, HB⟩ := hrel
          cases gk with
          | zero => exact absurd HA.out (by simp [copyholdlaw15_WireApart.l0])
          | succ k2 =>
            have H := HA.out
            clear HA
            simp only [copyholdlaw15_WireApart.l0] at H
            by_cases c83 : x9_2 < (l0_38.length : Int)
            · rw [if_pos c83] at H
              have c83b0 : decide (x9_2 < (l0_38.length : Int)) = true := decide_eq_true c83
              clear c83
              by_cases c84 : 0 ≤ x9_2
              · rw [if_pos c84] at H
                have c84b0 : decide (0 ≤ x9_2) = true := decide_eq_true c84
                clear c84
                have H' := Aside0.mk H
                clear H
                have hnb85 := NB104_101.out
                have hnc85 := NB101_104.out
                have hnb86 := NB104_102.out
                have hnc86 := NB102_104.out
                have hnb87 := NB104_103.out
                have hnc87 := NB103_104.out
                have hnb88 := NB104_105.out
                have hnc88 := NB105_104.out
                have hcz89_0 : wr.cell? ⟨gb104, 0, none⟩ = some (.int .i64 a0_28) := pxk_ BK104 0
                have hcz89_1 : wr.cell? ⟨gb104, 1, none⟩ = some (.int .i64 a0_29) := pxk_ BK104 1
                have hcz89_2 : wr.cell? ⟨gb104, 2, none⟩ = some (.int .i64 a0_30) := pxk_ BK104 2
                have hcz89_3 : wr.cell? ⟨gb104, 3, none⟩ = some (.int .i64 a0_31) := pxk_ BK104 3
                have hcz89_4 : wr.cell? ⟨gb104, 4, none⟩ = some (.int .i64 a0_32) := pxk_ BK104 4
                have hcz89_5 : wr.cell? ⟨gb104, 5, none⟩ = some (.int .i64 a0_33) := pxk_ BK104 5
                have hcz89_6 : wr.cell? ⟨gb104, 6, none⟩ = some (.int .i64 a0_34) := pxk_ BK104 6
                have hcz89_7 : wr.cell? ⟨gb104, 7, none⟩ = some (.int .i64 a0_35) := pxk_ BK104 7
                have hcz89_8 : wr.cell? ⟨gb104, 8, none⟩ = some (.int .i64 a0_36) := pxk_ BK104 8
                have hcz89_9 : wr.cell? ⟨gb104, 9, none⟩ = some (.string a0_37) := pxk_ BK104 9
                have hcz89_10 : wr.cell? ⟨gb104, 10, none⟩ = some (.slice A0_38 l0_38.length c0_38) := pxk_ BK104 10
                pxf_ hfz89_0 BK104 0
                pxf_ hfz89_1 BK104 1
                pxf_ hfz89_2 BK104 2
                pxf_ hfz89_3 BK104 3
                pxf_ hfz89_4 BK104 4
                pxf_ hfz89_5 BK104 5
                pxf_ hfz89_6 BK104 6
                pxf_ hfz89_7 BK104 7
                pxf_ hfz89_8 BK104 8
                pxf_ hfz89_9 BK104 9
                pxf_ hfz89_10 BK104 10
                have p109 : 0 ≤ (x9_2 : Int) := of_decide_eq_true (by first | (with_reducible assumption) | assumption)
                have q109 : x9_2 < (l0_38.length : Int) := of_decide_eq_true (by first | (with_reducible assumption) | assumption)
                obtain ⟨ad109, e109, hx109_0⟩ := Kd.at_string HR0_38.out x9_2 p109 q109
                cases e109
                replace hx109_0 := (HB.out.cell (World.block_lt_of_cell? w _ hx109_0)).trans hx109_0
                replace p109 := eq_true p109
                replace q109 := eq_true q109
                go_wp2
                go_roundg k2
                case measure => have := HJ2.out; have := HK2.out; omega
                case rel => exact ⟨(wrap64 (x8_2 + ((rdOf ByteArray.empty l0_38 x9_2).size : Int))), (wrap64 (x9_2 + 1)), (by first | rfl | (simp; done) | (simp [*]; done)), (by first | rfl | (simp; done) | (simp [*]; done)), H', ⟨by have := HJ2.out; have := HK2.out; omega⟩, ⟨by (with_reducible repeat (first | refine blk_drewN ?_ _ | refine blk_drew ?_ | refine blk_alloc ?_ _)); exact BK101.out⟩, ⟨by (with_reducible repeat (first | refine blk_drewN ?_ _ | refine blk_drew ?_ | refine blk_alloc ?_ _)); exact BK102.out⟩, ⟨by (with_reducible repeat (first | refine blk_drewN ?_ _ | refine blk_drew ?_ | refine blk_alloc ?_ _)); exact BK103.out⟩, ⟨by (with_reducible repeat (first | refine blk_drewN ?_ _ | refine blk_drew ?_ | refine blk_alloc ?_ _)); exact BK104.out⟩, ⟨by (with_reducible repeat (first | refine blk_drewN ?_ _ | refine blk_drew ?_ | refine blk_alloc ?_ _)); exact BK105.out⟩, ⟨by repeat (first | (with_reducible first | exact HB.out | apply below_alloc | apply pw_below_drewN | apply below_drew1 | refine below_set ?_ GE101.out | refine below_set ?_ GE102.out | refine below_set ?_ GE103.out | refine below_set ?_ GE104.out | refine below_set ?_ GE105.out) | exact HB.out)⟩⟩
              · rw [if_neg c84] at H
                exact absurd H (by simp)
            · rw [if_neg c83] at H
              have c83b0 : decide (x9_2 < (l0_38.length : Int)) = false := decide_eq_false c83
              clear c83
              have H' := Aside0.mk H
              clear H
              have hnb90 := NB104_101.out
              have hnc90 := NB101_104.out
              have hnb91 := NB104_102.out
              have hnc91 := NB102_104.out
              have hnb92 := NB104_103.out
              have hnc92 := NB103_104.out
              have hnb93 := NB104_105.out
              have hnc93 := NB105_104.out
              have hcz94_0 : wr.cell? ⟨gb104, 0, none⟩ = some (.int .i64 a0_28) := pxk_ BK104 0
              have hcz94_1 : wr.cell? ⟨gb104, 1, none⟩ = some (.int .i64 a0_29) := pxk_ BK104 1
              have hcz94_2 : wr.cell? ⟨gb104, 2, none⟩ = some (.int .i64 a0_30) := pxk_ BK104 2
              have hcz94_3 : wr.cell? ⟨gb104, 3, none⟩ = some (.int .i64 a0_31) := pxk_ BK104 3
              have hcz94_4 : wr.cell? ⟨gb104, 4, none⟩ = some (.int .i64 a0_32) := pxk_ BK104 4
              have hcz94_5 : wr.cell? ⟨gb104, 5, none⟩ = some (.int .i64 a0_33) := pxk_ BK104 5
              have hcz94_6 : wr.cell? ⟨gb104, 6, none⟩ = some (.int .i64 a0_34) := pxk_ BK104 6
              have hcz94_7 : wr.cell? ⟨gb104, 7, none⟩ = some (.int .i64 a0_35) := pxk_ BK104 7
              have hcz94_8 : wr.cell? ⟨gb104, 8, none⟩ = some (.int .i64 a0_36) := pxk_ BK104 8
              have hcz94_9 : wr.cell? ⟨gb104, 9, none⟩ = some (.string a0_37) := pxk_ BK104 9
              have hcz94_10 : wr.cell? ⟨gb104, 10, none⟩ = some (.slice A0_38 l0_38.length c0_38) := pxk_ BK104 10
              pxf_ hfz94_0 BK104 0
              pxf_ hfz94_1 BK104 1
              pxf_ hfz94_2 BK104 2
              pxf_ hfz94_3 BK104 3
              pxf_ hfz94_4 BK104 4
              pxf_ hfz94_5 BK104 5
              pxf_ hfz94_6 BK104 6
              pxf_ hfz94_7 BK104 7
              pxf_ hfz94_8 BK104 8
              pxf_ hfz94_9 BK104 9
              pxf_ hfz94_10 BK104 10
              go_wp2
              go_loopg [8, 10] k2 (fun kq v8 v10 w' => ∃ (x8_3 : Int) (x10_3 : Int), v8 = .int .i64 x8_3 ∧ v10 = .int .i64 x10_3 ∧ Aside0 (copyholdlaw15_WireApart.l1 kq t106 x8_3 x10_3 a0_0 a0_1 a0_2 a0_3 a0_4 a0_5 a0_6 a0_7 a0_8 a0_9 a0_10 a0_11 a0_12 a0_13 a0_14 a0_15 a0_16 a0_17 a0_18 a0_19 a0_20 a0_21 a0_22 a0_23 a0_24 a0_25 a0_26 a0_27 a0_28 a0_29 a0_30 a0_31 a0_32 a0_33 a0_34 a0_35 a0_36 a0_37 l0_38 a0_39 a0_40 a0_41 a0_42 a0_43 a0_44 a0_45 a0_46 a0_47 a0_48 l0_49 = some r) ∧ Aside0 (kq ≤ k2) ∧ Aside0 (w'.heap[gb101]? = some (.cells pxA0_ 39 (0, 0))) ∧ Aside0 (w'.heap[gb102]? = some (.cells pxA30_ 32 (0, 0))) ∧ Aside0 (w'.heap[gb103]? = some (.cells pxA28_ 32 (0, 0))) ∧ Aside0 (w'.heap[gb104]? = some (.cells pxA31_ 37 (0, 0))) ∧ Aside0 (w'.heap[gb105]? = some (.cells pxA32_ 37 (0, 0))) ∧ Aside0 (Below w.heap.size w w'))
              case atStart => exact ⟨(x8_2), (0), (by first | rfl | (simp; done) | (simp [*]; done)), (by first | rfl | (simp; done) | (simp [*]; done)), H', ⟨Nat.le_refl _⟩, ⟨by (with_reducible repeat (first | refine blk_drewN ?_ _ | refine blk_drew ?_ | refine blk_alloc ?_ _)); exact BK101.out⟩, ⟨by (with_reducible repeat (first | refine blk_drewN ?_ _ | refine blk_drew ?_ | refine blk_alloc ?_ _)); exact BK102.out⟩, ⟨by (with_reducible repeat (first | refine blk_drewN ?_ _ | refine blk_drew ?_ | refine blk_alloc ?_ _)); exact BK103.out⟩, ⟨by (with_reducible repeat (first | refine blk_drewN ?_ _ | refine blk_drew ?_ | refine blk_alloc ?_ _)); exact BK104.out⟩, ⟨by (with_reducible repeat (first | refine blk_drewN ?_ _ | refine blk_drew ?_ | refine blk_alloc ?_ _)); exact BK105.out⟩, ⟨by repeat (first | (with_reducible first | exact HB.out | apply below_alloc | apply pw_below_drewN | apply below_drew1 | refine below_set ?_ GE101.out | refine below_set ?_ GE102.out | refine below_set ?_ GE103.out | refine below_set ?_ GE104.out | refine below_set ?_ GE105.out) | exact HB.out)⟩⟩
              case round =>
                clear H'
                try clear p1
                try clear q1
                try clear hx1
                try clear p2
                try clear p6
                try clear c8
                try clear c9
                try clear p10
                try clear q10
                try clear hx10
                try clear p64
                try clear c83
                try clear c83b0
                try clear c84
                try clear c84b0
                try clear c85
                try clear c86
                try clear c87
                try clear c88
                try clear c90
                try clear c91
                try clear c92
                try clear c93
                try clear hcz64_8
                try clear hcz64_9
                try clear hcz69_0
                try clear hcz69_1
                try clear hcz69_10
                try clear hcz69_11
                try clear hcz69_12
                try clear hcz69_13
                try clear hcz69_2
                try clear hcz69_3
                try clear hcz69_4
                try clear hcz69_5
                try clear hcz69_6
                try clear hcz69_7
                try clear hcz69_8
                try clear hcz69_9
                try clear hcz74_0
                try clear hcz74_1
                try clear hcz74_10
                try clear hcz74_11
                try clear hcz74_12
                try clear hcz74_13
                try clear hcz74_2
                try clear hcz74_3
                try clear hcz74_4
                try clear hcz74_5
                try clear hcz74_6
                try clear hcz74_7
                try clear hcz74_8
                try clear hcz74_9
                try clear hcz80_0
                try clear hcz80_1
                try clear hcz80_10
                try clear hcz80_11
                try clear hcz80_12
                try clear hcz80_13
                try clear hcz80_2
                try clear hcz80_3
                try clear hcz80_4
                try clear hcz80_5
                try clear hcz80_6
                try clear hcz80_7
                try clear hcz80_8
                try clear hcz80_9
                try clear hcz89_0
                try clear hcz89_1
                try clear hcz89_10
                try clear hcz89_2
                try clear hcz89_3
                try clear hcz89_4
                try clear hcz89_5
                try clear hcz89_6
                try clear hcz89_7
                try clear hcz89_8
                try clear hcz89_9
                try clear hcz8_0
                try clear hcz8_1
                try clear hcz8_10
                try clear hcz8_11
                try clear hcz8_12
                try clear hcz8_13
                try clear hcz8_2
                try clear hcz8_3
                try clear hcz8_4
                try clear hcz8_5
                try clear hcz8_6
                try clear hcz8_7
                try clear hcz8_8
                try clear hcz8_9
                try clear hcz94_0
                try clear hcz94_1
                try clear hcz94_10
                try clear hcz94_2
                try clear hcz94_3
                try clear hcz94_4
                try clear hcz94_5
                try clear hcz94_6
                try clear hcz94_7
                try clear hcz94_8
                try clear hcz94_9
                try clear hcz9_0
                try clear hcz9_1
                try clear hcz9_10
                try clear hcz9_11
                try clear hcz9_12
                try clear hcz9_13
                try clear hcz9_14
                try clear hcz9_15
                try clear hcz9_16
                try clear hcz9_17
                try clear hcz9_18
                try clear hcz9_19
                try clear hcz9_2
                try clear hcz9_20
                try clear hcz9_21
                try clear hcz9_22
                try clear hcz9_23
                try clear hcz9_24
                try clear hcz9_25
                try clear hcz9_26
                try clear hcz9_27
                try clear hcz9_28
                try clear hcz9_29
                try clear hcz9_3
                try clear hcz9_30
                try clear hcz9_31
                try clear hcz9_32
                try clear hcz9_33
                try clear hcz9_34
                try clear hcz9_35
                try clear hcz9_36
                try clear hcz9_37
                try clear hcz9_38
                try clear hcz9_39
                try clear hcz9_4
                try clear hcz9_40
                try clear hcz9_41
                try clear hcz9_42
                try clear hcz9_43
                try clear hcz9_44
                try clear hcz9_45
                try clear hcz9_46
                try clear hcz9_47
                try clear hcz9_48
                try clear hcz9_49
                try clear hcz9_5
                try clear hcz9_6
                try clear hcz9_7
                try clear hcz9_8
                try clear hcz9_9
                try clear hfz13_0
                try clear hfz13_1
                try clear hfz13_10
                try clear hfz13_11
                try clear hfz13_12
                try clear hfz13_13
                try clear hfz13_2
                try clear hfz13_3
                try clear hfz13_4
                try clear hfz13_5
                try clear hfz13_6
                try clear hfz13_7
                try clear hfz13_8
                try clear hfz13_9
                try clear hfz14_0
                try clear hfz14_1
                try clear hfz14_10
                try clear hfz14_11
                try clear hfz14_12
                try clear hfz14_13
                try clear hfz14_14
                try clear hfz14_15
                try clear hfz14_16
                try clear hfz14_17
                try clear hfz14_18
                try clear hfz14_19
                try clear hfz14_2
                try clear hfz14_20
                try clear hfz14_21
                try clear hfz14_22
                try clear hfz14_23
                try clear hfz14_24
                try clear hfz14_25
                try clear hfz14_26
                try clear hfz14_27
                try clear hfz14_28
                try clear hfz14_29
                try clear hfz14_3
                try clear hfz14_30
                try clear hfz14_31
                try clear hfz14_32
                try clear hfz14_33
                try clear hfz14_34
                try clear hfz14_35
                try clear hfz14_36
                try clear hfz14_37
                try clear hfz14_38
                try clear hfz14_39
                try clear hfz14_4
                try clear hfz14_40
                try clear hfz14_41
                try clear hfz14_42
                try clear hfz14_43
                try clear hfz14_44
                try clear hfz14_45
                try clear hfz14_46
                try clear hfz14_47
                try clear hfz14_48
                try clear hfz14_49
                try clear hfz14_5
                try clear hfz14_6
                try clear hfz14_7
                try clear hfz14_8
                try clear hfz14_9
                try clear hfz19_0
                try clear hfz19_1
                try clear hfz19_10
                try clear hfz19_2
                try clear hfz19_3
                try clear hfz19_4
                try clear hfz19_5
                try clear hfz19_6
                try clear hfz19_7
                try clear hfz19_8
                try clear hfz19_9
                try clear hfz20_0
                try clear hfz20_1
                try clear hfz20_10
                try clear hfz20_11
                try clear hfz20_12
                try clear hfz20_13
                try clear hfz20_14
                try clear hfz20_15
                try clear hfz20_16
                try clear hfz20_17
                try clear hfz20_18
                try clear hfz20_19
                try clear hfz20_2
                try clear hfz20_20
                try clear hfz20_21
                try clear hfz20_22
                try clear hfz20_23
                try clear hfz20_24
                try clear hfz20_25
                try clear hfz20_26
                try clear hfz20_27
                try clear hfz20_28
                try clear hfz20_29
                try clear hfz20_3
                try clear hfz20_30
                try clear hfz20_31
                try clear hfz20_32
                try clear hfz20_33
                try clear hfz20_34
                try clear hfz20_35
                try clear hfz20_36
                try clear hfz20_37
                try clear hfz20_38
                try clear hfz20_39
                try clear hfz20_4
                try clear hfz20_40
                try clear hfz20_41
                try clear hfz20_42
                try clear hfz20_43
                try clear hfz20_44
                try clear hfz20_45
                try clear hfz20_46
                try clear hfz20_47
                try clear hfz20_48
                try clear hfz20_49
                try clear hfz20_5
                try clear hfz20_6
                try clear hfz20_7
                try clear hfz20_8
                try clear hfz20_9
                try clear hfz26_0
                try clear hfz26_1
                try clear hfz26_10
                try clear hfz26_2
                try clear hfz26_3
                try clear hfz26_4
                try clear hfz26_5
                try clear hfz26_6
                try clear hfz26_7
                try clear hfz26_8
                try clear hfz26_9
                try clear hfz37_0
                try clear hfz37_1
                try clear hfz37_10
                try clear hfz37_11
                try clear hfz37_12
                try clear hfz37_13
                try clear hfz37_2
                try clear hfz37_3
                try clear hfz37_4
                try clear hfz37_5
                try clear hfz37_6
                try clear hfz37_7
                try clear hfz37_8
                try clear hfz37_9
                try clear hfz42_0
                try clear hfz42_1
                try clear hfz42_10
                try clear hfz42_11
                try clear hfz42_12
                try clear hfz42_13
                try clear hfz42_2
                try clear hfz42_3
                try clear hfz42_4
                try clear hfz42_5
                try clear hfz42_6
                try clear hfz42_7
                try clear hfz42_8
                try clear hfz42_9
                try clear hfz46_0
                try clear hfz46_1
                try clear hfz46_10
                try clear hfz46_2
                try clear hfz46_3
                try clear hfz46_4
                try clear hfz46_5
                try clear hfz46_6
                try clear hfz46_7
                try clear hfz46_8
                try clear hfz46_9
                try clear hfz48_0
                try clear hfz48_1
                try clear hfz48_10
                try clear hfz48_2
                try clear hfz48_3
                try clear hfz48_4
                try clear hfz48_5
                try clear hfz48_6
                try clear hfz48_7
                try clear hfz48_8
                try clear hfz48_9
                try clear hfz53_0
                try clear hfz53_1
                try clear hfz53_10
                try clear hfz53_11
                try clear hfz53_12
                try clear hfz53_13
                try clear hfz53_2
                try clear hfz53_3
                try clear hfz53_4
                try clear hfz53_5
                try clear hfz53_6
                try clear hfz53_7
                try clear hfz53_8
                try clear hfz53_9
                try clear hfz58_0
                try clear hfz58_1
                try clear hfz58_10
                try clear hfz58_11
                try clear hfz58_12
                try clear hfz58_13
                try clear hfz58_2
                try clear hfz58_3
                try clear hfz58_4
                try clear hfz58_5
                try clear hfz58_6
                try clear hfz58_7
                try clear hfz58_8
                try clear hfz58_9
                try clear hfz5_0
                try clear hfz5_1
                try clear hfz5_10
                try clear hfz5_11
                try clear hfz5_12
                try clear hfz5_13
                try clear hfz5_14
                try clear hfz5_15
                try clear hfz5_16
                try clear hfz5_17
                try clear hfz5_18
                try clear hfz5_19
                try clear hfz5_2
                try clear hfz5_20
                try clear hfz5_21
                try clear hfz5_22
                try clear hfz5_23
                try clear hfz5_24
                try clear hfz5_25
                try clear hfz5_26
                try clear hfz5_27
                try clear hfz5_28
                try clear hfz5_29
                try clear hfz5_3
                try clear hfz5_30
                try clear hfz5_31
                try clear hfz5_32
                try clear hfz5_33
                try clear hfz5_34
                try clear hfz5_35
                try clear hfz5_36
                try clear hfz5_37
                try clear hfz5_38
                try clear hfz5_39
                try clear hfz5_4
                try clear hfz5_40
                try clear hfz5_41
                try clear hfz5_42
                try clear hfz5_43
                try clear hfz5_44
                try clear hfz5_45
                try clear hfz5_46
                try clear hfz5_47
                try clear hfz5_48
                try clear hfz5_49
                try clear hfz5_5
                try clear hfz5_6
                try clear hfz5_7
                try clear hfz5_8
                try clear hfz5_9
                try clear hfz62_0
                try clear hfz62_1
                try clear hfz62_10
                try clear hfz62_2
                try clear hfz62_3
                try clear hfz62_4
                try clear hfz62_5
                try clear hfz62_6
                try clear hfz62_7
                try clear hfz62_8
                try clear hfz62_9
                try clear hfz64_0
                try clear hfz64_1
                try clear hfz64_10
                try clear hfz64_2
                try clear hfz64_3
                try clear hfz64_4
                try clear hfz64_5
                try clear hfz64_6
                try clear hfz64_7
                try clear hfz64_8
                try clear hfz64_9
                try clear hfz69_0
                try clear hfz69_1
                try clear hfz69_10
                try clear hfz69_11
                try clear hfz69_12
                try clear hfz69_13
                try clear hfz69_2
                try clear hfz69_3
                try clear hfz69_4
                try clear hfz69_5
                try clear hfz69_6
                try clear hfz69_7
                try clear hfz69_8
                try clear hfz69_9
                try clear hfz74_0
                try clear hfz74_1
                try clear hfz74_10
                try clear hfz74_11
                try clear hfz74_12
                try clear hfz74_13
                try clear hfz74_2
                try clear hfz74_3
                try clear hfz74_4
                try clear hfz74_5
                try clear hfz74_6
                try clear hfz74_7
                try clear hfz74_8
                try clear hfz74_9
                try clear hfz80_0
                try clear hfz80_1
                try clear hfz80_10
                try clear hfz80_11
                try clear hfz80_12
                try clear hfz80_13
                try clear hfz80_2
                try clear hfz80_3
                try clear hfz80_4
                try clear hfz80_5
                try clear hfz80_6
                try clear hfz80_7
                try clear hfz80_8
                try clear hfz80_9
                try clear hfz89_0
                try clear hfz89_1
                try clear hfz89_10
                try clear hfz89_2
                try clear hfz89_3
                try clear hfz89_4
                try clear hfz89_5
                try clear hfz89_6
                try clear hfz89_7
                try clear hfz89_8
                try clear hfz89_9
                try clear hfz8_0
                try clear hfz8_1
                try clear hfz8_10
                try clear hfz8_11
                try clear hfz8_12
                try clear hfz8_13
                try clear hfz8_2
                try clear hfz8_3
                try clear hfz8_4
                try clear hfz8_5
                try clear hfz8_6
                try clear hfz8_7
                try clear hfz8_8
                try clear hfz8_9
                try clear hfz94_0
                try clear hfz94_1
                try clear hfz94_10
                try clear hfz94_2
                try clear hfz94_3
                try clear hfz94_4
                try clear hfz94_5
                try clear hfz94_6
                try clear hfz94_7
                try clear hfz94_8
                try clear hfz94_9
                try clear hfz9_0
                try clear hfz9_1
                try clear hfz9_10
                try clear hfz9_11
                try clear hfz9_12
                try clear hfz9_13
                try clear hfz9_14
                try clear hfz9_15
                try clear hfz9_16
                try clear hfz9_17
                try clear hfz9_18
                try clear hfz9_19
                try clear hfz9_2
                try clear hfz9_20
                try clear hfz9_21
                try clear hfz9_22
                try clear hfz9_23
                try clear hfz9_24
                try clear hfz9_25
                try clear hfz9_26
                try clear hfz9_27
                try clear hfz9_28
                try clear hfz9_29
                try clear hfz9_3
                try clear hfz9_30
                try clear hfz9_31
                try clear hfz9_32
                try clear hfz9_33
                try clear hfz9_34
                try clear hfz9_35
                try clear hfz9_36
                try clear hfz9_37
                try clear hfz9_38
                try clear hfz9_39
                try clear hfz9_4
                try clear hfz9_40
                try clear hfz9_41
                try clear hfz9_42
                try clear hfz9_43
                try clear hfz9_44
                try clear hfz9_45
                try clear hfz9_46
                try clear hfz9_47
                try clear hfz9_48
                try clear hfz9_49
                try clear hfz9_5
                try clear hfz9_6
                try clear hfz9_7
                try clear hfz9_8
                try clear hfz9_9
                try clear hx109_0
                try clear p109
                try clear q109
                obtain ⟨x8_3, x10_3, rfl, rfl, HA, HK3, BK101, BK102, BK103, BK104, BK105, HB⟩ := hrel
                cases gk with
                | zero => exact absurd HA.out (by simp [copyholdlaw15_WireApart.l1])
                | succ k3 =>
                  have H := HA.out
                  clear HA
                  simp only [copyholdlaw15_WireApart.l1] at H
                  by_cases c95 : x10_3 < (l0_49.length : Int)
                  · rw [if_pos c95] at H
                    have c95b0 : decide (x10_3 < (l0_49.length : Int)) = true := decide_eq_true c95
                    clear c95
                    by_cases c96 : 0 ≤ x10_3
                    · rw [if_pos c96] at H
                      have c96b0 : decide (0 ≤ x10_3) = true := decide_eq_true c96
                      clear c96
                      have H' := Aside0.mk H
                      clear H
                      have hnb97 := NB105_101.out
                      have hnc97 := NB101_105.out
                      have hnb98 := NB105_102.out
                      have hnc98 := NB102_105.out
                      have hnb99 := NB105_103.out
                      have hnc99 := NB103_105.out
                      have hnb100 := NB105_104.out
                      have hnc100 := NB104_105.out
                      have hcz101_0 : wr.cell? ⟨gb105, 0, none⟩ = some (.int .i64 a0_39) := pxk_ BK105 0
                      have hcz101_1 : wr.cell? ⟨gb105, 1, none⟩ = some (.int .i64 a0_40) := pxk_ BK105 1
                      have hcz101_2 : wr.cell? ⟨gb105, 2, none⟩ = some (.int .i64 a0_41) := pxk_ BK105 2
                      have hcz101_3 : wr.cell? ⟨gb105, 3, none⟩ = some (.int .i64 a0_42) := pxk_ BK105 3
                      have hcz101_4 : wr.cell? ⟨gb105, 4, none⟩ = some (.int .i64 a0_43) := pxk_ BK105 4
                      have hcz101_5 : wr.cell? ⟨gb105, 5, none⟩ = some (.int .i64 a0_44) := pxk_ BK105 5
                      have hcz101_6 : wr.cell? ⟨gb105, 6, none⟩ = some (.int .i64 a0_45) := pxk_ BK105 6
                      have hcz101_7 : wr.cell? ⟨gb105, 7, none⟩ = some (.int .i64 a0_46) := pxk_ BK105 7
                      have hcz101_8 : wr.cell? ⟨gb105, 8, none⟩ = some (.int .i64 a0_47) := pxk_ BK105 8
                      have hcz101_9 : wr.cell? ⟨gb105, 9, none⟩ = some (.string a0_48) := pxk_ BK105 9
                      have hcz101_10 : wr.cell? ⟨gb105, 10, none⟩ = some (.slice A0_49 l0_49.length c0_49) := pxk_ BK105 10
                      pxf_ hfz101_0 BK105 0
                      pxf_ hfz101_1 BK105 1
                      pxf_ hfz101_2 BK105 2
                      pxf_ hfz101_3 BK105 3
                      pxf_ hfz101_4 BK105 4
                      pxf_ hfz101_5 BK105 5
                      pxf_ hfz101_6 BK105 6
                      pxf_ hfz101_7 BK105 7
                      pxf_ hfz101_8 BK105 8
                      pxf_ hfz101_9 BK105 9
                      pxf_ hfz101_10 BK105 10
                      have p110 : 0 ≤ (x10_3 : Int) := of_decide_eq_true (by first | (with_reducible assumption) | assumption)
                      have q110 : x10_3 < (l0_49.length : Int) := of_decide_eq_true (by first | (with_reducible assumption) | assumption)
                      obtain ⟨ad110, e110, hx110_0⟩ := Kd.at_string HR0_49.out x10_3 p110 q110
                      cases e110
                      replace hx110_0 := (HB.out.cell (World.block_lt_of_cell? w _ hx110_0)).trans hx110_0
                      replace p110 := eq_true p110
                      replace q110 := eq_true q110
                      go_wp2
                      go_roundg k3
                      case measure => have := HJ2.out; have := HK2.out; have := HK3.out; omega
                      case rel => exact ⟨(wrap64 (x8_3 + ((rdOf ByteArray.empty l0_49 x10_3).size : Int))), (wrap64 (x10_3 + 1)), (by first | rfl | (simp; done) | (simp [*]; done)), (by first | rfl | (simp; done) | (simp [*]; done)), H', ⟨by have := HJ2.out; have := HK2.out; have := HK3.out; omega⟩, ⟨by (with_reducible repeat (first | refine blk_drewN ?_ _ | refine blk_drew ?_ | refine blk_alloc ?_ _)); exact BK101.out⟩, ⟨by (with_reducible repeat (first | refine blk_drewN ?_ _ | refine blk_drew ?_ | refine blk_alloc ?_ _)); exact BK102.out⟩, ⟨by (with_reducible repeat (first | refine blk_drewN ?_ _ | refine blk_drew ?_ | refine blk_alloc ?_ _)); exact BK103.out⟩, ⟨by (with_reducible repeat (first | refine blk_drewN ?_ _ | refine blk_drew ?_ | refine blk_alloc ?_ _)); exact BK104.out⟩, ⟨by (with_reducible repeat (first | refine blk_drewN ?_ _ | refine blk_drew ?_ | refine blk_alloc ?_ _)); exact BK105.out⟩, ⟨by repeat (first | (with_reducible first | exact HB.out | apply below_alloc | apply pw_below_drewN | apply below_drew1 | refine below_set ?_ GE101.out | refine below_set ?_ GE102.out | refine below_set ?_ GE103.out | refine below_set ?_ GE104.out | refine below_set ?_ GE105.out) | exact HB.out)⟩⟩
                    · rw [if_neg c96] at H
                      exact absurd H (by simp)
                  · rw [if_neg c95] at H
                    have c95b0 : decide (x10_3 < (l0_49.length : Int)) = false := decide_eq_false c95
                    clear c95
                    by_cases c102 : x8_3 > 4000
                    · rw [if_pos c102] at H
                      have c102b0 : decide (4000 < x8_3) = true := decide_eq_true c102
                      clear c102
                      obtain rfl := Option.some.inj H
                      have hnb103 := NB105_101.out
                      have hnc103 := NB101_105.out
                      have hnb104 := NB105_102.out
                      have hnc104 := NB102_105.out
                      have hnb105 := NB105_103.out
                      have hnc105 := NB103_105.out
                      have hnb106 := NB105_104.out
                      have hnc106 := NB104_105.out
                      have hcz107_0 : wr.cell? ⟨gb105, 0, none⟩ = some (.int .i64 a0_39) := pxk_ BK105 0
                      have hcz107_1 : wr.cell? ⟨gb105, 1, none⟩ = some (.int .i64 a0_40) := pxk_ BK105 1
                      have hcz107_2 : wr.cell? ⟨gb105, 2, none⟩ = some (.int .i64 a0_41) := pxk_ BK105 2
                      have hcz107_3 : wr.cell? ⟨gb105, 3, none⟩ = some (.int .i64 a0_42) := pxk_ BK105 3
                      have hcz107_4 : wr.cell? ⟨gb105, 4, none⟩ = some (.int .i64 a0_43) := pxk_ BK105 4
                      have hcz107_5 : wr.cell? ⟨gb105, 5, none⟩ = some (.int .i64 a0_44) := pxk_ BK105 5
                      have hcz107_6 : wr.cell? ⟨gb105, 6, none⟩ = some (.int .i64 a0_45) := pxk_ BK105 6
                      have hcz107_7 : wr.cell? ⟨gb105, 7, none⟩ = some (.int .i64 a0_46) := pxk_ BK105 7
                      have hcz107_8 : wr.cell? ⟨gb105, 8, none⟩ = some (.int .i64 a0_47) := pxk_ BK105 8
                      have hcz107_9 : wr.cell? ⟨gb105, 9, none⟩ = some (.string a0_48) := pxk_ BK105 9
                      have hcz107_10 : wr.cell? ⟨gb105, 10, none⟩ = some (.slice A0_49 l0_49.length c0_49) := pxk_ BK105 10
                      pxf_ hfz107_0 BK105 0
                      pxf_ hfz107_1 BK105 1
                      pxf_ hfz107_2 BK105 2
                      pxf_ hfz107_3 BK105 3
                      pxf_ hfz107_4 BK105 4
                      pxf_ hfz107_5 BK105 5
                      pxf_ hfz107_6 BK105 6
                      pxf_ hfz107_7 BK105 7
                      pxf_ hfz107_8 BK105 8
                      pxf_ hfz107_9 BK105 9
                      pxf_ hfz107_10 BK105 10
                      go_wp2
                      go_ret
                      pxL2_
                    · rw [if_neg c102] at H
                      have c102b0 : decide (4000 < x8_3) = false := decide_eq_false c102
                      clear c102
                      replace H := Option.bind_eq_some_iff.mp H
                      obtain ⟨t111, A1080, H⟩ := H
                      replace H : (if t106 = true then ((wire_Msg.f a0_0 a0_1 a0_2 a0_3 a0_4 a0_5 a0_6 a0_7 a0_8 a0_9 a0_10 a0_11 a0_12 a0_13).bind fun t112 => ((wire_Msg.f a0_14 a0_15 a0_16 a0_17 a0_18 a0_19 a0_20 a0_21 a0_22 a0_23 a0_24 a0_25 a0_26 a0_27).bind fun t113 => (if ((t112.toList == t113.toList) == (a0_0 == a0_14 && (a0_1 == a0_15 && (a0_2 == a0_16 && (a0_3 == a0_17 && (a0_4 == a0_18 && (a0_5 == a0_19 && ((a0_6 == a0_20 && (a0_7 == a0_21 && (a0_8 == a0_22 && (a0_9 == a0_23 && (a0_10 == a0_24 && (a0_11.toList == a0_25.toList && (a0_12.toList == a0_26.toList && (a0_13.toList == a0_27.toList)))))))))))))))) = true then ((wire_Rsp.f a0_28 a0_29 a0_30 a0_31 a0_32 a0_33 a0_34 a0_35 a0_36 a0_37 l0_38).bind fun t114 => ((wire_Rsp.f a0_39 a0_40 a0_41 a0_42 a0_43 a0_44 a0_45 a0_46 a0_47 a0_48 l0_49).bind fun t115 => (some ((t114.toList == t115.toList) == t111)))) else (none)))) else (none)) = some r := H
                      have A108 := Aside0.mk A1080
                      clear A1080
                      by_cases c109 : t106 = true
                      · subst c109
                        have H1 : ((wire_Msg.f a0_0 a0_1 a0_2 a0_3 a0_4 a0_5 a0_6 a0_7 a0_8 a0_9 a0_10 a0_11 a0_12 a0_13).bind fun t112 => ((wire_Msg.f a0_14 a0_15 a0_16 a0_17 a0_18 a0_19 a0_20 a0_21 a0_22 a0_23 a0_24 a0_25 a0_26 a0_27).bind fun t113 => (if ((t112.toList == t113.toList) == (a0_0 == a0_14 && (a0_1 == a0_15 && (a0_2 == a0_16 && (a0_3 == a0_17 && (a0_4 == a0_18 && (a0_5 == a0_19 && ((a0_6 == a0_20 && (a0_7 == a0_21 && (a0_8 == a0_22 && (a0_9 == a0_23 && (a0_10 == a0_24 && (a0_11.toList == a0_25.toList && (a0_12.toList == a0_26.toList && (a0_13.toList == a0_27.toList)))))))))))))))) = true then ((wire_Rsp.f a0_28 a0_29 a0_30 a0_31 a0_32 a0_33 a0_34 a0_35 a0_36 a0_37 l0_38).bind fun t114 => ((wire_Rsp.f a0_39 a0_40 a0_41 a0_42 a0_43 a0_44 a0_45 a0_46 a0_47 a0_48 l0_49).bind fun t115 => (some ((t114.toList == t115.toList) == t111)))) else (none)))) = some r := by rw [if_pos rfl] at H; exact H
                        clear H
                        have H := H1
                        clear H1
                        replace H := Option.bind_eq_some_iff.mp H
                        obtain ⟨t112, A1100, H⟩ := H
                        replace H : ((wire_Msg.f a0_14 a0_15 a0_16 a0_17 a0_18 a0_19 a0_20 a0_21 a0_22 a0_23 a0_24 a0_25 a0_26 a0_27).bind fun t113 => (if ((t112.toList == t113.toList) == (a0_0 == a0_14 && (a0_1 == a0_15 && (a0_2 == a0_16 && (a0_3 == a0_17 && (a0_4 == a0_18 && (a0_5 == a0_19 && ((a0_6 == a0_20 && (a0_7 == a0_21 && (a0_8 == a0_22 && (a0_9 == a0_23 && (a0_10 == a0_24 && (a0_11.toList == a0_25.toList && (a0_12.toList == a0_26.toList && (a0_13.toList == a0_27.toList)))))))))))))))) = true then ((wire_Rsp.f a0_28 a0_29 a0_30 a0_31 a0_32 a0_33 a0_34 a0_35 a0_36 a0_37 l0_38).bind fun t114 => ((wire_Rsp.f a0_39 a0_40 a0_41 a0_42 a0_43 a0_44 a0_45 a0_46 a0_47 a0_48 l0_49).bind fun t115 => (some ((t114.toList == t115.toList) == t111)))) else (none))) = some r := H
                        have A110 := Aside0.mk A1100
                        clear A1100
                        replace H := Option.bind_eq_some_iff.mp H
                        obtain ⟨t113, A1110, H⟩ := H
                        replace H : (if ((t112.toList == t113.toList) == (a0_0 == a0_14 && (a0_1 == a0_15 && (a0_2 == a0_16 && (a0_3 == a0_17 && (a0_4 == a0_18 && (a0_5 == a0_19 && ((a0_6 == a0_20 && (a0_7 == a0_21 && (a0_8 == a0_22 && (a0_9 == a0_23 && (a0_10 == a0_24 && (a0_11.toList == a0_25.toList && (a0_12.toList == a0_26.toList && (a0_13.toList == a0_27.toList)))))))))))))))) = true then ((wire_Rsp.f a0_28 a0_29 a0_30 a0_31 a0_32 a0_33 a0_34 a0_35 a0_36 a0_37 l0_38).bind fun t114 => ((wire_Rsp.f a0_39 a0_40 a0_41 a0_42 a0_43 a0_44 a0_45 a0_46 a0_47 a0_48 l0_49).bind fun t115 => (some ((t114.toList == t115.toList) == t111)))) else (none)) = some r := H
                        have A111 := Aside0.mk A1110
                        clear A1110
                        by_cases c112 : ((t112.toList == t113.toList) == (a0_0 == a0_14 && (a0_1 == a0_15 && (a0_2 == a0_16 && (a0_3 == a0_17 && (a0_4 == a0_18 && (a0_5 == a0_19 && ((a0_6 == a0_20 && (a0_7 == a0_21 && (a0_8 == a0_22 && (a0_9 == a0_23 && (a0_10 == a0_24 && (a0_11.toList == a0_25.toList && (a0_12.toList == a0_26.toList && (a0_13.toList == a0_27.toList)))))))))))))))) = true
                        · rw [if_pos c112] at H
                          have c112b0 : ((t112.toList == t113.toList) == (a0_0 == a0_14 && (a0_1 == a0_15 && (a0_2 == a0_16 && (a0_3 == a0_17 && (a0_4 == a0_18 && (a0_5 == a0_19 && ((a0_6 == a0_20 && (a0_7 == a0_21 && (a0_8 == a0_22 && (a0_9 == a0_23 && (a0_10 == a0_24 && (a0_11.toList == a0_25.toList && (a0_12.toList == a0_26.toList && (a0_13.toList == a0_27.toList)))))))))))))))) = true := c112
                          (try (have c112b1 : decide ((t112.toList == t113.toList) = (a0_0 == a0_14 && (a0_1 == a0_15 && (a0_2 == a0_16 && (a0_3 == a0_17 && (a0_4 == a0_18 && (a0_5 == a0_19 && ((a0_6 == a0_20 && (a0_7 == a0_21 && (a0_8 == a0_22 && (a0_9 == a0_23 && (a0_10 == a0_24 && (a0_11.toList == a0_25.toList && (a0_12.toList == a0_26.toList && (a0_13.toList == a0_27.toList)))))))))))))))) = true := by simpa using c112))
                          (try (have c112b2 : ((t112.toList == t113.toList) == (a0_0 == a0_14 && (a0_1 == a0_15 && (a0_2 == a0_16 && (a0_3 == a0_17 && (a0_4 == a0_18 && (a0_5 == a0_19 && ((a0_6 == a0_20 && (a0_7 == a0_21 && (a0_8 == a0_22 && (a0_9 == a0_23 && (a0_10 == a0_24 && (a0_11.toList == a0_25.toList && (a0_12.toList == a0_26.toList && (a0_13.toList == a0_27.toList)))))))))))))))) = true := by simpa using c112))
                          clear c112
                          replace H := Option.bind_eq_some_iff.mp H
                          obtain ⟨t114, A1130, H⟩ := H
                          replace H : ((wire_Rsp.f a0_39 a0_40 a0_41 a0_42 a0_43 a0_44 a0_45 a0_46 a0_47 a0_48 l0_49).bind fun t115 => (some ((t114.toList == t115.toList) == t111))) = some r := H
                          have A113 := Aside0.mk A1130
                          clear A1130
                          replace H := Option.bind_eq_some_iff.mp H
                          obtain ⟨t115, A1140, H⟩ := H
                          replace H : (some ((t114.toList == t115.toList) == t111)) = some r := H
                          have A114 := Aside0.mk A1140
                          clear A1140
                          obtain rfl := Option.some.inj H
                          have hnb115 := NB105_101.out
                          have hnc115 := NB101_105.out
                          have hnb116 := NB105_102.out
                          have hnc116 := NB102_105.out
                          have hnb117 := NB105_103.out
                          have hnc117 := NB103_105.out
                          have hnb118 := NB105_104.out
                          have hnc118 := NB104_105.out
                          have hcz119_0 : wr.cell? ⟨gb105, 0, none⟩ = some (.int .i64 a0_39) := pxk_ BK105 0
                          have hcz119_1 : wr.cell? ⟨gb105, 1, none⟩ = some (.int .i64 a0_40) := pxk_ BK105 1
                          have hcz119_2 : wr.cell? ⟨gb105, 2, none⟩ = some (.int .i64 a0_41) := pxk_ BK105 2
                          have hcz119_3 : wr.cell? ⟨gb105, 3, none⟩ = some (.int .i64 a0_42) := pxk_ BK105 3
                          have hcz119_4 : wr.cell? ⟨gb105, 4, none⟩ = some (.int .i64 a0_43) := pxk_ BK105 4
                          have hcz119_5 : wr.cell? ⟨gb105, 5, none⟩ = some (.int .i64 a0_44) := pxk_ BK105 5
                          have hcz119_6 : wr.cell? ⟨gb105, 6, none⟩ = some (.int .i64 a0_45) := pxk_ BK105 6
                          have hcz119_7 : wr.cell? ⟨gb105, 7, none⟩ = some (.int .i64 a0_46) := pxk_ BK105 7
                          have hcz119_8 : wr.cell? ⟨gb105, 8, none⟩ = some (.int .i64 a0_47) := pxk_ BK105 8
                          have hcz119_9 : wr.cell? ⟨gb105, 9, none⟩ = some (.string a0_48) := pxk_ BK105 9
                          have hcz119_10 : wr.cell? ⟨gb105, 10, none⟩ = some (.slice A0_49 l0_49.length c0_49) := pxk_ BK105 10
                          pxf_ hfz119_0 BK105 0
                          pxf_ hfz119_1 BK105 1
                          pxf_ hfz119_2 BK105 2
                          pxf_ hfz119_3 BK105 3
                          pxf_ hfz119_4 BK105 4
                          pxf_ hfz119_5 BK105 5
                          pxf_ hfz119_6 BK105 6
                          pxf_ hfz119_7 BK105 7
                          pxf_ hfz119_8 BK105 8
                          pxf_ hfz119_9 BK105 9
                          pxf_ hfz119_10 BK105 10
                          have hnb120 := NB104_101.out
                          have hnc120 := NB101_104.out
                          have hnb121 := NB104_102.out
                          have hnc121 := NB102_104.out
                          have hnb122 := NB104_103.out
                          have hnc122 := NB103_104.out
                          have hcz123_0 : wr.cell? ⟨gb104, 0, none⟩ = some (.int .i64 a0_28) := pxk_ BK104 0
                          have hcz123_1 : wr.cell? ⟨gb104, 1, none⟩ = some (.int .i64 a0_29) := pxk_ BK104 1
                          have hcz123_2 : wr.cell? ⟨gb104, 2, none⟩ = some (.int .i64 a0_30) := pxk_ BK104 2
                          have hcz123_3 : wr.cell? ⟨gb104, 3, none⟩ = some (.int .i64 a0_31) := pxk_ BK104 3
                          have hcz123_4 : wr.cell? ⟨gb104, 4, none⟩ = some (.int .i64 a0_32) := pxk_ BK104 4
                          have hcz123_5 : wr.cell? ⟨gb104, 5, none⟩ = some (.int .i64 a0_33) := pxk_ BK104 5
                          have hcz123_6 : wr.cell? ⟨gb104, 6, none⟩ = some (.int .i64 a0_34) := pxk_ BK104 6
                          have hcz123_7 : wr.cell? ⟨gb104, 7, none⟩ = some (.int .i64 a0_35) := pxk_ BK104 7
                          have hcz123_8 : wr.cell? ⟨gb104, 8, none⟩ = some (.int .i64 a0_36) := pxk_ BK104 8
                          have hcz123_9 : wr.cell? ⟨gb104, 9, none⟩ = some (.string a0_37) := pxk_ BK104 9
                          have hcz123_10 : wr.cell? ⟨gb104, 10, none⟩ = some (.slice A0_38 l0_38.length c0_38) := pxk_ BK104 10
                          pxf_ hfz123_0 BK104 0
                          pxf_ hfz123_1 BK104 1
                          pxf_ hfz123_2 BK104 2
                          pxf_ hfz123_3 BK104 3
                          pxf_ hfz123_4 BK104 4
                          pxf_ hfz123_5 BK104 5
                          pxf_ hfz123_6 BK104 6
                          pxf_ hfz123_7 BK104 7
                          pxf_ hfz123_8 BK104 8
                          pxf_ hfz123_9 BK104 9
                          pxf_ hfz123_10 BK104 10
                          try go_wp2_with (first | ((with_reducible refine gate_callee (f := 14) rfl ?_); refine goesL_ (some 95) rfl rfl Try.func14 (by kernel_rfl) rfl #[.agg pxA33_, .agg pxA34_] rfl (by (try simp only [List.map_toArray, List.map_cons, List.map_nil]); first | done | rfl | (simp only [List.length_drop, List.length_take]; rfl)) ?_; (with_reducible refine (copyholdref15_Same.calls k3 a0_28 a0_29 a0_30 a0_31 a0_32 a0_33 a0_34 a0_35 a0_36 a0_37 _ _ l0_38 a0_39 a0_40 a0_41 a0_42 a0_43 a0_44 a0_45 a0_46 a0_47 a0_48 _ _ l0_49 t111 _ ?side1 ?side2 ?side3 ?side4 A108.out).mono ?_); (case side1 => repeat (first | exact (Kd.C_below HR0_38.out HB.out) | (with_reducible refine Kd.C_alloc ?_ _) | (with_reducible refine Kd.C_drewN ?_ _) | (with_reducible refine Kd.C_drew ?_))); (case side2 => exact HC0_38.out); (case side3 => repeat (first | exact (Kd.C_below HR0_49.out HB.out) | (with_reducible refine Kd.C_alloc ?_ _) | (with_reducible refine Kd.C_drewN ?_ _) | (with_reducible refine Kd.C_drew ?_))); (case side4 => exact HC0_49.out); rintro e w124 ⟨rfl, hb⟩; refine ⟨_, rfl, ?_⟩; have n0_ := Aside0.mk (blk_below (g := gb101) (o := .cells pxA1_ 39 (0, 0)) (by (with_reducible repeat (first | refine blk_drewN ?_ _ | refine blk_drew ?_ | refine blk_alloc ?_ _)); exact BK101.out) hb); have n1_ := Aside0.mk (blk_below (g := gb102) (o := .cells pxA30_ 32 (0, 0)) (by (with_reducible repeat (first | refine blk_drewN ?_ _ | refine blk_drew ?_ | refine blk_alloc ?_ _)); exact BK102.out) hb); have n2_ := Aside0.mk (blk_below (g := gb103) (o := .cells pxA28_ 32 (0, 0)) (by (with_reducible repeat (first | refine blk_drewN ?_ _ | refine blk_drew ?_ | refine blk_alloc ?_ _)); exact BK103.out) hb); have n3_ := Aside0.mk (blk_below (g := gb104) (o := .cells pxA33_ 37 (0, 0)) (by (with_reducible repeat (first | refine blk_drewN ?_ _ | refine blk_drew ?_ | refine blk_alloc ?_ _)); exact BK104.out) hb); have n4_ := Aside0.mk (blk_below (g := gb105) (o := .cells pxA34_ 37 (0, 0)) (by (with_reducible repeat (first | refine blk_drewN ?_ _ | refine blk_drew ?_ | refine blk_alloc ?_ _)); exact BK105.out) hb); have n5_ := Aside0.mk (below_step (by repeat (first | (with_reducible first | exact HB.out | apply below_alloc | apply pw_below_drewN | apply below_drew1 | refine below_set ?_ GE101.out | refine below_set ?_ GE102.out | refine below_set ?_ GE103.out | refine below_set ?_ GE104.out | refine below_set ?_ GE105.out) | exact HB.out)) hb); clear BK101; clear BK102; clear BK103; clear BK104; clear BK105; clear HB; have BK101 := n0_; have BK102 := n1_; have BK103 := n2_; have BK104 := n3_; have BK105 := n4_; have HB := n5_; clear n0_ n1_ n2_ n3_ n4_ n5_; (try clear hb); (try clear hb2); (try clear hk); (try clear hi)))
                          have n0_ := Aside0.mk (blk_drew BK101.out)
                          have n1_ := Aside0.mk (blk_drew BK102.out)
                          have n2_ := Aside0.mk (blk_drew BK103.out)
                          have n3_ := Aside0.mk (blk_drew BK104.out)
                          have n4_ := Aside0.mk (blk_drew BK105.out)
                          have n5_ := Aside0.mk (below_drew1 HB.out)
                          clear BK101
                          clear BK102
                          clear BK103
                          clear BK104
                          clear BK105
                          clear HB
                          have BK101 := n0_
                          have BK102 := n1_
                          have BK103 := n2_
                          have BK104 := n3_
                          have BK105 := n4_
                          have HB := n5_
                          clear n0_ n1_ n2_ n3_ n4_ n5_
                          refine start_ (n := 22) (S := fun w' => w'.cell? ⟨gb102, 0, none⟩ = some (.int .i64 a0_0) ∧ w'.cell? ⟨gb102, 1, none⟩ = some (.int .i64 a0_1) ∧ w'.cell? ⟨gb102, 2, none⟩ = some (.int .i64 a0_2) ∧ w'.cell? ⟨gb102, 3, none⟩ = some (.int .i64 a0_3) ∧ w'.cell? ⟨gb102, 4, none⟩ = some (.int .i64 a0_4) ∧ w'.cell? ⟨gb102, 5, none⟩ = some (.int .i64 a0_5) ∧ w'.cell? ⟨gb102, 6, none⟩ = some (.int .i64 a0_6) ∧ w'.cell? ⟨gb102, 7, none⟩ = some (.int .i64 a0_7) ∧ w'.cell? ⟨gb102, 8, none⟩ = some (.int .i64 a0_8) ∧ w'.cell? ⟨gb102, 9, none⟩ = some (.int .i64 a0_9) ∧ w'.cell? ⟨gb102, 10, none⟩ = some (.int .i64 a0_10) ∧ w'.cell? ⟨gb102, 11, none⟩ = some (.string a0_11) ∧ w'.cell? ⟨gb102, 12, none⟩ = some (.string a0_12) ∧ w'.cell? ⟨gb102, 13, none⟩ = some (.string a0_13) ∧ w'.cell? ⟨gb103, 0, none⟩ = some (.int .i64 a0_14) ∧ w'.cell? ⟨gb103, 1, none⟩ = some (.int .i64 a0_15) ∧ w'.cell? ⟨gb103, 2, none⟩ = some (.int .i64 a0_16) ∧ w'.cell? ⟨gb103, 3, none⟩ = some (.int .i64 a0_17) ∧ w'.cell? ⟨gb103, 4, none⟩ = some (.int .i64 a0_18) ∧ w'.cell? ⟨gb103, 5, none⟩ = some (.int .i64 a0_19) ∧ w'.cell? ⟨gb103, 6, none⟩ = some (.int .i64 a0_20) ∧ w'.cell? ⟨gb103, 7, none⟩ = some (.int .i64 a0_21) ∧ w'.cell? ⟨gb103, 8, none⟩ = some (.int .i64 a0_22) ∧ w'.cell? ⟨gb103, 9, none⟩ = some (.int .i64 a0_23) ∧ w'.cell? ⟨gb103, 10, none⟩ = some (.int .i64 a0_24) ∧ w'.cell? ⟨gb103, 11, none⟩ = some (.string a0_25) ∧ w'.cell? ⟨gb103, 12, none⟩ = some (.string a0_26) ∧ w'.cell? ⟨gb103, 13, none⟩ = some (.string a0_27) ∧ w'.cell? ⟨gb104, 0, none⟩ = some (.int .i64 a0_28) ∧ w'.cell? ⟨gb104, 1, none⟩ = some (.int .i64 a0_29) ∧ w'.cell? ⟨gb104, 2, none⟩ = some (.int .i64 a0_30) ∧ w'.cell? ⟨gb104, 3, none⟩ = some (.int .i64 a0_31) ∧ w'.cell? ⟨gb104, 4, none⟩ = some (.int .i64 a0_32) ∧ w'.cell? ⟨gb104, 5, none⟩ = some (.int .i64 a0_33) ∧ w'.cell? ⟨gb104, 6, none⟩ = some (.int .i64 a0_34) ∧ w'.cell? ⟨gb104, 7, none⟩ = some (.int .i64 a0_35) ∧ w'.cell? ⟨gb104, 8, none⟩ = some (.int .i64 a0_36) ∧ w'.cell? ⟨gb104, 9, none⟩ = some (.string a0_37) ∧ w'.cell? ⟨gb104, 10, none⟩ = some (.slice A0_38 l0_38.length c0_38) ∧ w'.cell? ⟨gb105, 0, none⟩ = some (.int .i64 a0_39) ∧ w'.cell? ⟨gb105, 1, none⟩ = some (.int .i64 a0_40) ∧ w'.cell? ⟨gb105, 2, none⟩ = some (.int .i64 a0_41) ∧ w'.cell? ⟨gb105, 3, none⟩ = some (.int .i64 a0_42) ∧ w'.cell? ⟨gb105, 4, none⟩ = some (.int .i64 a0_43) ∧ w'.cell? ⟨gb105, 5, none⟩ = some (.int .i64 a0_44) ∧ w'.cell? ⟨gb105, 6, none⟩ = some (.int .i64 a0_45) ∧ w'.cell? ⟨gb105, 7, none⟩ = some (.int .i64 a0_46) ∧ w'.cell? ⟨gb105, 8, none⟩ = some (.int .i64 a0_47) ∧ w'.cell? ⟨gb105, 9, none⟩ = some (.string a0_48) ∧ w'.cell? ⟨gb105, 10, none⟩ = some (.slice A0_49 l0_49.length c0_49)) (ds := []) #[false, false, false, false, false, false, false, false, false, false, false, false, false, false, false, false, false, false, false, false, false, false] (by kernel_rfl) rfl rfl ⟨pxk_ BK102 0, pxk_ BK102 1, pxk_ BK102 2, pxk_ BK102 3, pxk_ BK102 4, pxk_ BK102 5, pxk_ BK102 6, pxk_ BK102 7, pxk_ BK102 8, pxk_ BK102 9, pxk_ BK102 10, pxk_ BK102 11, pxk_ BK102 12, pxk_ BK102 13, pxk_ BK103 0, pxk_ BK103 1, pxk_ BK103 2, pxk_ BK103 3, pxk_ BK103 4, pxk_ BK103 5, pxk_ BK103 6, pxk_ BK103 7, pxk_ BK103 8, pxk_ BK103 9, pxk_ BK103 10, pxk_ BK103 11, pxk_ BK103 12, pxk_ BK103 13, pxk_ BK104 0, pxk_ BK104 1, pxk_ BK104 2, pxk_ BK104 3, pxk_ BK104 4, pxk_ BK104 5, pxk_ BK104 6, pxk_ BK104 7, pxk_ BK104 8, pxk_ BK104 9, pxk_ BK104 10, pxk_ BK105 0, pxk_ BK105 1, pxk_ BK105 2, pxk_ BK105 3, pxk_ BK105 4, pxk_ BK105 5, pxk_ BK105 6, pxk_ BK105 7, pxk_ BK105 8, pxk_ BK105 9, pxk_ BK105 10⟩ (fun hHeld => ?_); refine with_tabW copyholdlaw15_WireApart.tab20 copyholdlaw15_WireApart.bits20 (fun HT_ HW_ => ?_)
                          generalize w124.drew = w125 at BK101 BK102 BK103 BK104 BK105 HB hHeld ⊢
                          refine pure_ (i := 0) (N := some 96) (v := ?_) (a' := ?_) #[true, false, false, false, false, false, false, false, false, false, false, false, false, false, false, false, false, false, false, false, false, false] rfl rfl (any_of HT_.out (by kernel_rfl)) (fun _ _ _ h => h) (Or.inl ⟨by rfl, ?_⟩) ?_ ?_
                          rotate_left
                          · intro w'
                            go_simp
                            with_reducible rfl
                          rotate_left
                          · simp only [Act.put, List.setIfInBounds_toArray, List.set_cons_zero, List.set_cons_succ, i64_w, i32_w]
                            rfl
                          refine pure_ (i := 1) (N := some 97) (v := ?_) (a' := ?_) #[true, true, false, false, false, false, false, false, false, false, false, false, false, false, false, false, false, false, false, false, false, false] rfl rfl (any_of HT_.out (by kernel_rfl)) (fun _ _ _ h => h) (Or.inl ⟨by rfl, ?_⟩) ?_ ?_
                          rotate_left
                          · intro w'
                            go_simp
                            with_reducible rfl
                          rotate_left
                          · simp only [Act.put, List.setIfInBounds_toArray, List.set_cons_zero, List.set_cons_succ, i64_w, i32_w]
                            rfl
                          refine take_ (i := 2) (N := some 98) (v := ?_) (a' := ?_) #[true, true, true, false, false, false, false, false, false, false, false, false, false, false, false, false, false, false, false, false, false, false] rfl rfl (take_ofW HT_.out HW_.out (by kernel_rfl)) (fun _ _ _ h => h) (Or.inl ⟨by rfl, ?_⟩) hHeld ?_ ?_
                          rotate_left
                          · rintro w' ⟨s0, s1, s2, s3, s4, s5, s6, s7, s8, s9, s10, s11, s12, s13, s14, s15, s16, s17, s18, s19, s20, s21, s22, s23, s24, s25, s26, s27, s28, s29, s30, s31, s32, s33, s34, s35, s36, s37, s38, s39, s40, s41, s42, s43, s44, s45, s46, s47, s48, s49⟩
                            go_simp
                            with_reducible rfl
                          rotate_left
                          · simp only [Act.put, List.setIfInBounds_toArray, List.set_cons_zero, List.set_cons_succ, i64_w, i32_w]
                            rfl
                          refine take_ (i := 4) (N := some 100) (v := ?_) (a' := ?_) #[true, true, true, false, true, false, false, false, false, false, false, false, false, false, false, false, false, false, false, false, false, false] rfl rfl (take_ofW HT_.out HW_.out (by kernel_rfl)) (fun _ _ _ h => h) (Or.inl ⟨by rfl, ?_⟩) hHeld ?_ ?_
                          rotate_left
                          · rintro w' ⟨s0, s1, s2, s3, s4, s5, s6, s7, s8, s9, s10, s11, s12, s13, s14, s15, s16, s17, s18, s19, s20, s21, s22, s23, s24, s25, s26, s27, s28, s29, s30, s31, s32, s33, s34, s35, s36, s37, s38, s39, s40, s41, s42, s43, s44, s45, s46, s47, s48, s49⟩
                            go_simp
                            with_reducible rfl
                          rotate_left
                          · simp only [Act.put, List.setIfInBounds_toArray, List.set_cons_zero, List.set_cons_succ, i64_w, i32_w]
                            rfl
                          refine take_ (i := 7) (N := some 103) (v := ?_) (a' := ?_) #[true, true, true, false, true, false, false, true, false, false, false, false, false, false, false, false, false, false, false, false, false, false] rfl rfl (take_ofW HT_.out HW_.out (by kernel_rfl)) (fun _ _ _ h => h) (Or.inl ⟨by rfl, ?_⟩) hHeld ?_ ?_
                          rotate_left
                          · rintro w' ⟨s0, s1, s2, s3, s4, s5, s6, s7, s8, s9, s10, s11, s12, s13, s14, s15, s16, s17, s18, s19, s20, s21, s22, s23, s24, s25, s26, s27, s28, s29, s30, s31, s32, s33, s34, s35, s36, s37, s38, s39, s40, s41, s42, s43, s44, s45, s46, s47, s48, s49⟩
                            go_simp
                            with_reducible rfl
                          rotate_left
                          · simp only [Act.put, List.setIfInBounds_toArray, List.set_cons_zero, List.set_cons_succ, i64_w, i32_w]
                            rfl
                          refine take_ (i := 8) (N := some 104) (v := ?_) (a' := ?_) #[true, true, true, false, true, false, false, true, true, false, false, false, false, false, false, false, false, false, false, false, false, false] rfl rfl (take_ofW HT_.out HW_.out (by kernel_rfl)) (fun _ _ _ h => h) (Or.inl ⟨by rfl, ?_⟩) hHeld ?_ ?_
                          rotate_left
                          · rintro w' ⟨s0, s1, s2, s3, s4, s5, s6, s7, s8, s9, s10, s11, s12, s13, s14, s15, s16, s17, s18, s19, s20, s21, s22, s23, s24, s25, s26, s27, s28, s29, s30, s31, s32, s33, s34, s35, s36, s37, s38, s39, s40, s41, s42, s43, s44, s45, s46, s47, s48, s49⟩
                            go_simp
                            with_reducible rfl
                          rotate_left
                          · simp only [Act.put, List.setIfInBounds_toArray, List.set_cons_zero, List.set_cons_succ, i64_w, i32_w]
                            rfl
                          refine pure_ (i := 9) (N := some 105) (v := ?_) (a' := ?_) #[true, true, true, false, true, false, false, true, true, true, false, false, false, false, false, false, false, false, false, false, false, false] rfl rfl (any_of HT_.out (by kernel_rfl)) (fun _ _ _ h => h) (Or.inl ⟨by rfl, ?_⟩) ?_ ?_
                          rotate_left
                          · intro w'
                            go_simp
                            with_reducible rfl
                          rotate_left
                          · simp only [Act.put, List.setIfInBounds_toArray, List.set_cons_zero, List.set_cons_succ, i64_w, i32_w]
                            rfl
                          refine one_ (i := 3) (N := some 99) #[true, true, true, true, true, false, false, true, true, true, false, false, false, false, false, false, false, false, false, false, false, false] rfl rfl (one_of HT_.out (by kernel_rfl)) (by decide) (fun K hK => ?_)
                          refine goes_ Try.func15 (by kernel_rfl) rfl #[.agg pxA30_] (by rfl) rfl rfl (by (try simp only [List.map_toArray, List.map_cons, List.map_nil]); first | done | rfl | (simp only [List.length_drop, List.length_take]; rfl)) ?_
                          with_reducible refine (wire_Msg.calls a0_0 a0_1 a0_2 a0_3 a0_4 a0_5 a0_6 a0_7 a0_8 a0_9 a0_10 a0_11 a0_12 a0_13 t112 _ A110.out).mono ?_
                          rintro e w126 ⟨rfl, hb⟩
                          refine ⟨_, rfl, ?_⟩
                          pxL3_
                          pxL4_
                          pxL5_
                          pxL6_
                          pxL7_
                          pxL8_
                          clear BK101
                          clear BK102
                          clear BK103
                          clear BK104
                          clear BK105
                          clear HB
                          have BK101 := n0_
                          have BK102 := n1_
                          have BK103 := n2_
                          have BK104 := n3_
                          have BK105 := n4_
                          have HB := n5_
                          clear n0_ n1_ n2_ n3_ n4_ n5_
                          (try clear hb)
                          (try clear hb2)
                          (try clear hk)
                          (try clear hi)
                          pxL9_
                          clear hK K
                          refine norm_ (a' := ?_) ?_ ?_
                          rotate_left
                          · show Act.put _ (some 99) _ = _
                            simp only [Act.put, List.setIfInBounds_toArray, List.set_cons_zero, List.set_cons_succ, i64_w, i32_w]
                            rfl
                          refine one_ (i := 5) (N := some 101) #[true, true, true, true, true, true, false, true, true, true, false, false, false, false, false, false, false, false, false, false, false, false] rfl rfl (one_of HT_.out (by kernel_rfl)) (by decide) (fun K hK => ?_)
                          refine goes_ Try.func15 (by kernel_rfl) rfl #[.agg pxA28_] (by rfl) rfl rfl (by (try simp only [List.map_toArray, List.map_cons, List.map_nil]); first | done | rfl | (simp only [List.length_drop, List.length_take]; rfl)) ?_
                          with_reducible refine (wire_Msg.calls a0_14 a0_15 a0_16 a0_17 a0_18 a0_19 a0_20 a0_21 a0_22 a0_23 a0_24 a0_25 a0_26 a0_27 t113 _ A111.out).mono ?_
                          rintro e w127 ⟨rfl, hb⟩
                          refine ⟨_, rfl, ?_⟩
                          pxL3_
                          pxL4_
                          pxL5_
                          pxL6_
                          pxL7_
                          pxL8_
                          clear BK101
                          clear BK102
                          clear BK103
                          clear BK104
                          clear BK105
                          clear HB
                          have BK101 := n0_
                          have BK102 := n1_
                          have BK103 := n2_
                          have BK104 := n3_
                          have BK105 := n4_
                          have HB := n5_
                          clear n0_ n1_ n2_ n3_ n4_ n5_
                          (try clear hb)
                          (try clear hb2)
                          (try clear hk)
                          (try clear hi)
                          pxL9_
                          clear hK K
                          refine norm_ (a' := ?_) ?_ ?_
                          rotate_left
                          · show Act.put _ (some 101) _ = _
                            simp only [Act.put, List.setIfInBounds_toArray, List.set_cons_zero, List.set_cons_succ, i64_w, i32_w]
                            rfl
                          refine pure_ (i := 6) (N := some 102) (v := ?_) (a' := ?_) #[true, true, true, true, true, true, true, true, true, true, false, false, false, false, false, false, false, false, false, false, false, false] rfl rfl (any_of HT_.out (by kernel_rfl)) (fun _ _ _ h => h) (Or.inl ⟨by rfl, ?_⟩) ?_ ?_
                          rotate_left
                          · intro w'
                            go_simp
                            with_reducible rfl
                          rotate_left
                          · simp only [Act.put, List.setIfInBounds_toArray, List.set_cons_zero, List.set_cons_succ, i64_w, i32_w]
                            rfl
                          refine pure_ (i := 10) (N := some 106) (v := ?_) (a' := ?_) #[true, true, true, true, true, true, true, true, true, true, true, false, false, false, false, false, false, false, false, false, false, false] rfl rfl (any_of HT_.out (by kernel_rfl)) (fun _ _ _ h => h) (Or.inl ⟨by rfl, ?_⟩) ?_ ?_
                          rotate_left
                          · intro w'
                            go_simp
                            with_reducible rfl
                          rotate_left
                          · simp only [Act.put, List.setIfInBounds_toArray, List.set_cons_zero, List.set_cons_succ, i64_w, i32_w]
                            rfl
                          refine pure_ (i := 11) (N := some 107) (v := ?_) (a' := ?_) #[true, true, true, true, true, true, true, true, true, true, true, true, false, false, false, false, false, false, false, false, false, false] rfl rfl (any_of HT_.out (by kernel_rfl)) (fun _ _ _ h => h) (Or.inl ⟨by rfl, ?_⟩) ?_ ?_
                          rotate_left
                          · intro w'
                            go_simp
                            with_reducible rfl
                          rotate_left
                          · simp only [Act.put, List.setIfInBounds_toArray, List.set_cons_zero, List.set_cons_succ, i64_w, i32_w]
                            rfl
                          refine pure_ (i := 12) (N := some 108) (v := ?_) (a' := ?_) #[true, true, true, true, true, true, true, true, true, true, true, true, true, false, false, false, false, false, false, false, false, false] rfl rfl (any_of HT_.out (by kernel_rfl)) (fun _ _ _ h => h) (Or.inl ⟨by rfl, ?_⟩) ?_ ?_
                          rotate_left
                          · intro w'
                            go_simp
                            with_reducible rfl
                          rotate_left
                          · simp only [Act.put, List.setIfInBounds_toArray, List.set_cons_zero, List.set_cons_succ, i64_w, i32_w]
                            rfl
                          refine pure_ (i := 18) (N := some 114) (v := ?_) (a' := ?_) #[true, true, true, true, true, true, true, true, true, true, true, true, true, false, false, false, false, false, true, false, false, false] rfl rfl (any_of HT_.out (by kernel_rfl)) (fun _ _ _ h => h) (Or.inl ⟨by rfl, ?_⟩) ?_ ?_
                          rotate_left
                          · intro w'
                            go_simp
                            with_reducible rfl
                          rotate_left
                          · simp only [Act.put, List.setIfInBounds_toArray, List.set_cons_zero, List.set_cons_succ, i64_w, i32_w]
                            rfl
                          refine take_ (i := 13) (N := some 109) (v := ?_) (a' := ?_) #[true, true, true, true, true, true, true, true, true, true, true, true, true, true, false, false, false, false, true, false, false, false] rfl rfl (take_ofW HT_.out HW_.out (by kernel_rfl)) (fun _ _ _ h => h) (Or.inl ⟨by rfl, ?_⟩) hHeld ?_ ?_
                          rotate_left
                          · rintro w' ⟨s0, s1, s2, s3, s4, s5, s6, s7, s8, s9, s10, s11, s12, s13, s14, s15, s16, s17, s18, s19, s20, s21, s22, s23, s24, s25, s26, s27, s28, s29, s30, s31, s32, s33, s34, s35, s36, s37, s38, s39, s40, s41, s42, s43, s44, s45, s46, s47, s48, s49⟩
                            go_simp
                            with_reducible rfl
                          rotate_left
                          · simp only [Act.put, List.setIfInBounds_toArray, List.set_cons_zero, List.set_cons_succ, i64_w, i32_w]
                            rfl
                          refine take_ (i := 15) (N := some 111) (v := ?_) (a' := ?_) #[true, true, true, true, true, true, true, true, true, true, true, true, true, true, false, true, false, false, true, false, false, false] rfl rfl (take_ofW HT_.out HW_.out (by kernel_rfl)) (fun _ _ _ h => h) (Or.inl ⟨by rfl, ?_⟩) hHeld ?_ ?_
                          rotate_left
                          · rintro w' ⟨s0, s1, s2, s3, s4, s5, s6, s7, s8, s9, s10, s11, s12, s13, s14, s15, s16, s17, s18, s19, s20, s21, s22, s23, s24, s25, s26, s27, s28, s29, s30, s31, s32, s33, s34, s35, s36, s37, s38, s39, s40, s41, s42, s43, s44, s45, s46, s47, s48, s49⟩
                            go_simp
                            with_reducible rfl
                          rotate_left
                          · simp only [Act.put, List.setIfInBounds_toArray, List.set_cons_zero, List.set_cons_succ, i64_w, i32_w]
                            rfl
                          refine one_ (i := 14) (N := some 110) #[true, true, true, true, true, true, true, true, true, true, true, true, true, true, true, true, false, false, true, false, false, false] rfl rfl (one_of HT_.out (by kernel_rfl)) (by decide) (fun K hK => ?_)
                          refine goes_ Try.func16 (by kernel_rfl) rfl #[.agg pxA33_] (by rfl) rfl rfl (by (try simp only [List.map_toArray, List.map_cons, List.map_nil]); first | done | rfl | (simp only [List.length_drop, List.length_take]; rfl)) ?_
                          with_reducible refine (wire_Rsp.calls a0_28 a0_29 a0_30 a0_31 a0_32 a0_33 a0_34 a0_35 a0_36 a0_37 _ _ l0_38 t114 _ ?side1 ?side2 A113.out).mono ?_
                          (case side1 => repeat (first | exact (Kd.C_below HR0_38.out HB.out) | (with_reducible refine Kd.C_alloc ?_ _) | (with_reducible refine Kd.C_drewN ?_ _) | (with_reducible refine Kd.C_drew ?_)))
                          (case side2 => exact HC0_38.out)
                          rintro e w128 ⟨rfl, hb⟩
                          refine ⟨_, rfl, ?_⟩
                          pxL3_
                          pxL4_
                          pxL5_
                          pxL6_
                          pxL7_
                          pxL8_
                          clear BK101
                          clear BK102
                          clear BK103
                          clear BK104
                          clear BK105
                          clear HB
                          have BK101 := n0_
                          have BK102 := n1_
                          have BK103 := n2_
                          have BK104 := n3_
                          have BK105 := n4_
                          have HB := n5_
                          clear n0_ n1_ n2_ n3_ n4_ n5_
                          (try clear hb)
                          (try clear hb2)
                          (try clear hk)
                          (try clear hi)
                          pxL9_
                          clear hK K
                          refine norm_ (a' := ?_) ?_ ?_
                          rotate_left
                          · show Act.put _ (some 110) _ = _
                            simp only [Act.put, List.setIfInBounds_toArray, List.set_cons_zero, List.set_cons_succ, i64_w, i32_w]
                            rfl
                          refine one_ (i := 16) (N := some 112) #[true, true, true, true, true, true, true, true, true, true, true, true, true, true, true, true, true, false, true, false, false, false] rfl rfl (one_of HT_.out (by kernel_rfl)) (by decide) (fun K hK => ?_)
                          refine goes_ Try.func16 (by kernel_rfl) rfl #[.agg pxA34_] (by rfl) rfl rfl (by (try simp only [List.map_toArray, List.map_cons, List.map_nil]); first | done | rfl | (simp only [List.length_drop, List.length_take]; rfl)) ?_
                          with_reducible refine (wire_Rsp.calls a0_39 a0_40 a0_41 a0_42 a0_43 a0_44 a0_45 a0_46 a0_47 a0_48 _ _ l0_49 t115 _ ?side1 ?side2 A114.out).mono ?_
                          (case side1 => repeat (first | exact (Kd.C_below HR0_49.out HB.out) | (with_reducible refine Kd.C_alloc ?_ _) | (with_reducible refine Kd.C_drewN ?_ _) | (with_reducible refine Kd.C_drew ?_)))
                          (case side2 => exact HC0_49.out)
                          rintro e w129 ⟨rfl, hb⟩
                          refine ⟨_, rfl, ?_⟩
                          pxL3_
                          pxL4_
                          pxL5_
                          pxL6_
                          pxL7_
                          pxL8_
                          clear BK101
                          clear BK102
                          clear BK103
                          clear BK104
                          clear BK105
                          clear HB
                          have BK101 := n0_
                          have BK102 := n1_
                          have BK103 := n2_
                          have BK104 := n3_
                          have BK105 := n4_
                          have HB := n5_
                          clear n0_ n1_ n2_ n3_ n4_ n5_
                          (try clear hb)
                          (try clear hb2)
                          (try clear hk)
                          (try clear hi)
                          pxL9_
                          clear hK K
                          refine norm_ (a' := ?_) ?_ ?_
                          rotate_left
                          · show Act.put _ (some 112) _ = _
                            simp only [Act.put, List.setIfInBounds_toArray, List.set_cons_zero, List.set_cons_succ, i64_w, i32_w]
                            rfl
                          refine pure_ (i := 17) (N := some 113) (v := ?_) (a' := ?_) #[true, true, true, true, true, true, true, true, true, true, true, true, true, true, true, true, true, true, true, false, false, false] rfl rfl (any_of HT_.out (by kernel_rfl)) (fun _ _ _ h => h) (Or.inl ⟨by rfl, ?_⟩) ?_ ?_
                          rotate_left
                          · intro w'
                            go_simp
                            with_reducible rfl
                          rotate_left
                          · simp only [Act.put, List.setIfInBounds_toArray, List.set_cons_zero, List.set_cons_succ, i64_w, i32_w]
                            rfl
                          refine pure_ (i := 19) (N := some 115) (v := ?_) (a' := ?_) #[true, true, true, true, true, true, true, true, true, true, true, true, true, true, true, true, true, true, true, true, false, false] rfl rfl (any_of HT_.out (by kernel_rfl)) (fun _ _ _ h => h) (Or.inl ⟨by rfl, ?_⟩) ?_ ?_
                          rotate_left
                          · intro w'
                            go_simp
                            with_reducible rfl
                          rotate_left
                          · simp only [Act.put, List.setIfInBounds_toArray, List.set_cons_zero, List.set_cons_succ, i64_w, i32_w]
                            rfl
                          refine pure_ (i := 20) (N := some 116) (v := ?_) (a' := ?_) #[true, true, true, true, true, true, true, true, true, true, true, true, true, true, true, true, true, true, true, true, true, false] rfl rfl (any_of HT_.out (by kernel_rfl)) (fun _ _ _ h => h) (Or.inl ⟨by rfl, ?_⟩) ?_ ?_
                          rotate_left
                          · intro w'
                            go_simp
                            with_reducible rfl
                          rotate_left
                          · simp only [Act.put, List.setIfInBounds_toArray, List.set_cons_zero, List.set_cons_succ, i64_w, i32_w]
                            rfl
                          refine pure_ (i := 21) (N := some 2) (v := ?_) (a' := ?_) #[true, true, true, true, true, true, true, true, true, true, true, true, true, true, true, true, true, true, true, true, true, true] rfl rfl (any_of HT_.out (by kernel_rfl)) (fun _ _ _ h => h) (Or.inl ⟨by rfl, ?_⟩) ?_ ?_
                          rotate_left
                          · intro w'
                            go_simp
                            with_reducible rfl
                          rotate_left
                          · simp only [Act.put, List.setIfInBounds_toArray, List.set_cons_zero, List.set_cons_succ, i64_w, i32_w]
                            rfl
                          refine done_ (done_of HT_.out (by kernel_rfl)) ?_
                          try go_wp2
                          go_ret
                          pxL2_
                        · rw [if_neg c112] at H
                          exact absurd H (by simp)
                      · replace c109 := Bool.eq_false_iff.mpr c109
                        subst c109
                        have H1 : (none) = some r := by rw [if_neg (show ¬ (false = true) by decide)] at H; exact H
                        clear H
                        have H := H1
                        clear H1
                        exact absurd H (by simp)

end Go.Proofs.Ytgnmhbkialgeaaa.R
