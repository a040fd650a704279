/- Texts of this proof, one after the other: T, L0, R0, R1, R2. -/
import Derived.Test.YtjnikknlcmbcmaaGreatDoorZ4
set_option linter.unusedVariables false
set_option linter.unusedSimpArgs false
namespace Go.Proofs.YtjnikknlcmbcmaaGreatDoor
open Go.RowKit
structure S_api_CoinSecret where
 U : Int
 S : Int
 X : (List (List Int))
def z_api_CoinSecret : S_api_CoinSecret := { U := (0 : Int), S := (0 : Int), X := [] }
instance : Inhabited S_api_CoinSecret := ⟨z_api_CoinSecret⟩
@[go_sem] theorem z_api_CoinSecret_U : z_api_CoinSecret.U = (0 : Int) := Eq.trans rfl rfl
@[go_sem] theorem z_api_CoinSecret_S : z_api_CoinSecret.S = (0 : Int) := Eq.trans rfl rfl
@[go_sem] theorem z_api_CoinSecret_X : z_api_CoinSecret.X = [] := Eq.trans rfl rfl
structure S_api_CoinFactors where
 S : Int
 U : Int
 V : Int
def z_api_CoinFactors : S_api_CoinFactors := { S := (0 : Int), U := (0 : Int), V := (0 : Int) }
instance : Inhabited S_api_CoinFactors := ⟨z_api_CoinFactors⟩
@[go_sem] theorem z_api_CoinFactors_S : z_api_CoinFactors.S = (0 : Int) := Eq.trans rfl rfl
@[go_sem] theorem z_api_CoinFactors_U : z_api_CoinFactors.U = (0 : Int) := Eq.trans rfl rfl
@[go_sem] theorem z_api_CoinFactors_V : z_api_CoinFactors.V = (0 : Int) := Eq.trans rfl rfl
structure S_api_CoinView where
 M : Int
 Z : Int
 A : Int
 B : Int
 C : Int
 R : Int
def z_api_CoinView : S_api_CoinView := { M := (0 : Int), Z := (0 : Int), A := (0 : Int), B := (0 : Int), C := (0 : Int), R := (0 : Int) }
instance : Inhabited S_api_CoinView := ⟨z_api_CoinView⟩
@[go_sem] theorem z_api_CoinView_M : z_api_CoinView.M = (0 : Int) := Eq.trans rfl rfl
@[go_sem] theorem z_api_CoinView_Z : z_api_CoinView.Z = (0 : Int) := Eq.trans rfl rfl
@[go_sem] theorem z_api_CoinView_A : z_api_CoinView.A = (0 : Int) := Eq.trans rfl rfl
@[go_sem] theorem z_api_CoinView_B : z_api_CoinView.B = (0 : Int) := Eq.trans rfl rfl
@[go_sem] theorem z_api_CoinView_C : z_api_CoinView.C = (0 : Int) := Eq.trans rfl rfl
@[go_sem] theorem z_api_CoinView_R : z_api_CoinView.R = (0 : Int) := Eq.trans rfl rfl
structure S_api_CoinSign where
 Z : Int
 A : Int
 B : Int
 R : Int
def z_api_CoinSign : S_api_CoinSign := { Z := (0 : Int), A := (0 : Int), B := (0 : Int), R := (0 : Int) }
instance : Inhabited S_api_CoinSign := ⟨z_api_CoinSign⟩
@[go_sem] theorem z_api_CoinSign_Z : z_api_CoinSign.Z = (0 : Int) := Eq.trans rfl rfl
@[go_sem] theorem z_api_CoinSign_A : z_api_CoinSign.A = (0 : Int) := Eq.trans rfl rfl
@[go_sem] theorem z_api_CoinSign_B : z_api_CoinSign.B = (0 : Int) := Eq.trans rfl rfl
@[go_sem] theorem z_api_CoinSign_R : z_api_CoinSign.R = (0 : Int) := Eq.trans rfl rfl
structure S_api_Coin where
 Bank : Int
 Epoch : Int
 Denom : Int
 Depth : Int
 A : Int
 Root : (List Int)
 Sign : S_api_CoinSign
def z_api_Coin : S_api_Coin := { Bank := (0 : Int), Epoch := (0 : Int), Denom := (0 : Int), Depth := (0 : Int), A := (0 : Int), Root := [0, 0, 0, 0, 0, 0, 0, 0, 0, 0, 0, 0, 0, 0, 0, 0, 0, 0, 0, 0, 0, 0, 0, 0, 0, 0, 0, 0, 0, 0, 0, 0], Sign := z_api_CoinSign }
instance : Inhabited S_api_Coin := ⟨z_api_Coin⟩
@[go_sem] theorem z_api_Coin_Bank : z_api_Coin.Bank = (0 : Int) := Eq.trans rfl rfl
@[go_sem] theorem z_api_Coin_Epoch : z_api_Coin.Epoch = (0 : Int) := Eq.trans rfl rfl
@[go_sem] theorem z_api_Coin_Denom : z_api_Coin.Denom = (0 : Int) := Eq.trans rfl rfl
@[go_sem] theorem z_api_Coin_Depth : z_api_Coin.Depth = (0 : Int) := Eq.trans rfl rfl
@[go_sem] theorem z_api_Coin_A : z_api_Coin.A = (0 : Int) := Eq.trans rfl rfl
@[go_sem] theorem z_api_Coin_Root : z_api_Coin.Root = [0, 0, 0, 0, 0, 0, 0, 0, 0, 0, 0, 0, 0, 0, 0, 0, 0, 0, 0, 0, 0, 0, 0, 0, 0, 0, 0, 0, 0, 0, 0, 0] := Eq.trans rfl rfl
@[go_sem] theorem z_api_Coin_Sign : z_api_Coin.Sign = z_api_CoinSign := Eq.trans rfl rfl
structure S_api_Withdrawal where
 Phase : Int
 Number : Int
 Bank : Int
 Epoch : Int
 Denom : Int
 Depth : Int
 Secret : S_api_CoinSecret
 Factors : S_api_CoinFactors
 View : S_api_CoinView
 Coin : S_api_Coin
def z_api_Withdrawal : S_api_Withdrawal := { Phase := (0 : Int), Number := (0 : Int), Bank := (0 : Int), Epoch := (0 : Int), Denom := (0 : Int), Depth := (0 : Int), Secret := z_api_CoinSecret, Factors := z_api_CoinFactors, View := z_api_CoinView, Coin := z_api_Coin }
instance : Inhabited S_api_Withdrawal := ⟨z_api_Withdrawal⟩
@[go_sem] theorem z_api_Withdrawal_Phase : z_api_Withdrawal.Phase = (0 : Int) := Eq.trans rfl rfl
@[go_sem] theorem z_api_Withdrawal_Number : z_api_Withdrawal.Number = (0 : Int) := Eq.trans rfl rfl
@[go_sem] theorem z_api_Withdrawal_Bank : z_api_Withdrawal.Bank = (0 : Int) := Eq.trans rfl rfl
@[go_sem] theorem z_api_Withdrawal_Epoch : z_api_Withdrawal.Epoch = (0 : Int) := Eq.trans rfl rfl
@[go_sem] theorem z_api_Withdrawal_Denom : z_api_Withdrawal.Denom = (0 : Int) := Eq.trans rfl rfl
@[go_sem] theorem z_api_Withdrawal_Depth : z_api_Withdrawal.Depth = (0 : Int) := Eq.trans rfl rfl
@[go_sem] theorem z_api_Withdrawal_Secret : z_api_Withdrawal.Secret = z_api_CoinSecret := Eq.trans rfl rfl
@[go_sem] theorem z_api_Withdrawal_Factors : z_api_Withdrawal.Factors = z_api_CoinFactors := Eq.trans rfl rfl
@[go_sem] theorem z_api_Withdrawal_View : z_api_Withdrawal.View = z_api_CoinView := Eq.trans rfl rfl
@[go_sem] theorem z_api_Withdrawal_Coin : z_api_Withdrawal.Coin = z_api_Coin := Eq.trans rfl rfl
structure S_api_Draw where
 Seed : (List Int)
 Counter : Int
def z_api_Draw : S_api_Draw := { Seed := [0, 0, 0, 0, 0, 0, 0, 0, 0, 0, 0, 0, 0, 0, 0, 0, 0, 0, 0, 0, 0, 0, 0, 0, 0, 0, 0, 0, 0, 0, 0, 0], Counter := (0 : Int) }
instance : Inhabited S_api_Draw := ⟨z_api_Draw⟩
@[go_sem] theorem z_api_Draw_Seed : z_api_Draw.Seed = [0, 0, 0, 0, 0, 0, 0, 0, 0, 0, 0, 0, 0, 0, 0, 0, 0, 0, 0, 0, 0, 0, 0, 0, 0, 0, 0, 0, 0, 0, 0, 0] := Eq.trans rfl rfl
@[go_sem] theorem z_api_Draw_Counter : z_api_Draw.Counter = (0 : Int) := Eq.trans rfl rfl
structure S_api_Group where
 P : Int
 Q : Int
 G : Int
def z_api_Group : S_api_Group := { P := (0 : Int), Q := (0 : Int), G := (0 : Int) }
instance : Inhabited S_api_Group := ⟨z_api_Group⟩
@[go_sem] theorem z_api_Group_P : z_api_Group.P = (0 : Int) := Eq.trans rfl rfl
@[go_sem] theorem z_api_Group_Q : z_api_Group.Q = (0 : Int) := Eq.trans rfl rfl
@[go_sem] theorem z_api_Group_G : z_api_Group.G = (0 : Int) := Eq.trans rfl rfl
structure S_api_Bases where
 Group : S_api_Group
 G1 : Int
 G2 : Int
 H : Int
def z_api_Bases : S_api_Bases := { Group := z_api_Group, G1 := (0 : Int), G2 := (0 : Int), H := (0 : Int) }
instance : Inhabited S_api_Bases := ⟨z_api_Bases⟩
@[go_sem] theorem z_api_Bases_Group : z_api_Bases.Group = z_api_Group := Eq.trans rfl rfl
@[go_sem] theorem z_api_Bases_G1 : z_api_Bases.G1 = (0 : Int) := Eq.trans rfl rfl
@[go_sem] theorem z_api_Bases_G2 : z_api_Bases.G2 = (0 : Int) := Eq.trans rfl rfl
@[go_sem] theorem z_api_Bases_H : z_api_Bases.H = (0 : Int) := Eq.trans rfl rfl
structure S_api_Denom where
 Value : Int
 Depth : Int
def z_api_Denom : S_api_Denom := { Value := (0 : Int), Depth := (0 : Int) }
instance : Inhabited S_api_Denom := ⟨z_api_Denom⟩
@[go_sem] theorem z_api_Denom_Value : z_api_Denom.Value = (0 : Int) := Eq.trans rfl rfl
@[go_sem] theorem z_api_Denom_Depth : z_api_Denom.Depth = (0 : Int) := Eq.trans rfl rfl
structure S_api_BankKey where
 H : Int
 H1 : Int
 H2 : Int
def z_api_BankKey : S_api_BankKey := { H := (0 : Int), H1 := (0 : Int), H2 := (0 : Int) }
instance : Inhabited S_api_BankKey := ⟨z_api_BankKey⟩
@[go_sem] theorem z_api_BankKey_H : z_api_BankKey.H = (0 : Int) := Eq.trans rfl rfl
@[go_sem] theorem z_api_BankKey_H1 : z_api_BankKey.H1 = (0 : Int) := Eq.trans rfl rfl
@[go_sem] theorem z_api_BankKey_H2 : z_api_BankKey.H2 = (0 : Int) := Eq.trans rfl rfl
structure S_api_KeyRecord where
 Bank : Int
 Epoch : Int
 Denom : Int
 Value : Int
 Depth : Int
 Key : S_api_BankKey
 From : Int
 Until : Int
 Final : Int
def z_api_KeyRecord : S_api_KeyRecord := { Bank := (0 : Int), Epoch := (0 : Int), Denom := (0 : Int), Value := (0 : Int), Depth := (0 : Int), Key := z_api_BankKey, From := (0 : Int), Until := (0 : Int), Final := (0 : Int) }
instance : Inhabited S_api_KeyRecord := ⟨z_api_KeyRecord⟩
@[go_sem] theorem z_api_KeyRecord_Bank : z_api_KeyRecord.Bank = (0 : Int) := Eq.trans rfl rfl
@[go_sem] theorem z_api_KeyRecord_Epoch : z_api_KeyRecord.Epoch = (0 : Int) := Eq.trans rfl rfl
@[go_sem] theorem z_api_KeyRecord_Denom : z_api_KeyRecord.Denom = (0 : Int) := Eq.trans rfl rfl
@[go_sem] theorem z_api_KeyRecord_Value : z_api_KeyRecord.Value = (0 : Int) := Eq.trans rfl rfl
@[go_sem] theorem z_api_KeyRecord_Depth : z_api_KeyRecord.Depth = (0 : Int) := Eq.trans rfl rfl
@[go_sem] theorem z_api_KeyRecord_Key : z_api_KeyRecord.Key = z_api_BankKey := Eq.trans rfl rfl
@[go_sem] theorem z_api_KeyRecord_From : z_api_KeyRecord.From = (0 : Int) := Eq.trans rfl rfl
@[go_sem] theorem z_api_KeyRecord_Until : z_api_KeyRecord.Until = (0 : Int) := Eq.trans rfl rfl
@[go_sem] theorem z_api_KeyRecord_Final : z_api_KeyRecord.Final = (0 : Int) := Eq.trans rfl rfl
structure S_draw_source where
 d : S_api_Draw
 full : Bool
def z_draw_source : S_draw_source := { d := z_api_Draw, full := false }
instance : Inhabited S_draw_source := ⟨z_draw_source⟩
@[go_sem] theorem z_draw_source_d : z_draw_source.d = z_api_Draw := Eq.trans rfl rfl
@[go_sem] theorem z_draw_source_full : z_draw_source.full = false := Eq.trans rfl rfl
structure S_api_Item where
 Kind : Int
 N : Int
 B : (List Int)
 L : (List S_api_Item)
def z_api_Item : S_api_Item := { Kind := (0 : Int), N := (0 : Int), B := [], L := [] }
instance : Inhabited S_api_Item := ⟨z_api_Item⟩
@[go_sem] theorem z_api_Item_Kind : z_api_Item.Kind = (0 : Int) := Eq.trans rfl rfl
@[go_sem] theorem z_api_Item_N : z_api_Item.N = (0 : Int) := Eq.trans rfl rfl
@[go_sem] theorem z_api_Item_B : z_api_Item.B = [] := Eq.trans rfl rfl
@[go_sem] theorem z_api_Item_L : z_api_Item.L = [] := Eq.trans rfl rfl
structure S_encode_reader where
 b : (List Int)
 e : Int
def z_encode_reader : S_encode_reader := { b := [], e := (0 : Int) }
instance : Inhabited S_encode_reader := ⟨z_encode_reader⟩
@[go_sem] theorem z_encode_reader_b : z_encode_reader.b = [] := Eq.trans rfl rfl
@[go_sem] theorem z_encode_reader_e : z_encode_reader.e = (0 : Int) := Eq.trans rfl rfl
structure S_coin_writer where
 l : (List S_api_Item)
def z_coin_writer : S_coin_writer := { l := [] }
instance : Inhabited S_coin_writer := ⟨z_coin_writer⟩
@[go_sem] theorem z_coin_writer_l : z_coin_writer.l = [] := Eq.trans rfl rfl
def e_api_Withdrawal (x : S_api_Withdrawal) : V := .agg (.int .i64 x.Phase :: .int .i64 x.Number :: .int .i64 x.Bank :: .int .i64 x.Epoch :: .int .i64 x.Denom :: .int .i64 x.Depth :: .int .i64 x.Secret.U :: .int .i64 x.Secret.S :: .sl none 2 true (x.Secret.X.map (fun l => .agg [.int .i64 (gt l 0), .int .i64 (gt l 1)])) :: .int .i64 x.Factors.S :: .int .i64 x.Factors.U :: .int .i64 x.Factors.V :: .int .i64 x.View.M :: .int .i64 x.View.Z :: .int .i64 x.View.A :: .int .i64 x.View.B :: .int .i64 x.View.C :: .int .i64 x.View.R :: .int .i64 x.Coin.Bank :: .int .i64 x.Coin.Epoch :: .int .i64 x.Coin.Denom :: .int .i64 x.Coin.Depth :: .int .i64 x.Coin.A :: .int .u8 (gt x.Coin.Root 0) :: .int .u8 (gt x.Coin.Root 1) :: .int .u8 (gt x.Coin.Root 2) :: .int .u8 (gt x.Coin.Root 3) :: .int .u8 (gt x.Coin.Root 4) :: .int .u8 (gt x.Coin.Root 5) :: .int .u8 (gt x.Coin.Root 6) :: .int .u8 (gt x.Coin.Root 7) :: .int .u8 (gt x.Coin.Root 8) :: .int .u8 (gt x.Coin.Root 9) :: .int .u8 (gt x.Coin.Root 10) :: .int .u8 (gt x.Coin.Root 11) :: .int .u8 (gt x.Coin.Root 12) :: .int .u8 (gt x.Coin.Root 13) :: .int .u8 (gt x.Coin.Root 14) :: .int .u8 (gt x.Coin.Root 15) :: .int .u8 (gt x.Coin.Root 16) :: .int .u8 (gt x.Coin.Root 17) :: .int .u8 (gt x.Coin.Root 18) :: .int .u8 (gt x.Coin.Root 19) :: .int .u8 (gt x.Coin.Root 20) :: .int .u8 (gt x.Coin.Root 21) :: .int .u8 (gt x.Coin.Root 22) :: .int .u8 (gt x.Coin.Root 23) :: .int .u8 (gt x.Coin.Root 24) :: .int .u8 (gt x.Coin.Root 25) :: .int .u8 (gt x.Coin.Root 26) :: .int .u8 (gt x.Coin.Root 27) :: .int .u8 (gt x.Coin.Root 28) :: .int .u8 (gt x.Coin.Root 29) :: .int .u8 (gt x.Coin.Root 30) :: .int .u8 (gt x.Coin.Root 31) :: .int .i64 x.Coin.Sign.Z :: .int .i64 x.Coin.Sign.A :: .int .i64 x.Coin.Sign.B :: .int .i64 x.Coin.Sign.R :: [])
attribute [go_sem] e_api_Withdrawal
def e_api_Draw (x : S_api_Draw) : V := .agg (.int .u8 (gt x.Seed 0) :: .int .u8 (gt x.Seed 1) :: .int .u8 (gt x.Seed 2) :: .int .u8 (gt x.Seed 3) :: .int .u8 (gt x.Seed 4) :: .int .u8 (gt x.Seed 5) :: .int .u8 (gt x.Seed 6) :: .int .u8 (gt x.Seed 7) :: .int .u8 (gt x.Seed 8) :: .int .u8 (gt x.Seed 9) :: .int .u8 (gt x.Seed 10) :: .int .u8 (gt x.Seed 11) :: .int .u8 (gt x.Seed 12) :: .int .u8 (gt x.Seed 13) :: .int .u8 (gt x.Seed 14) :: .int .u8 (gt x.Seed 15) :: .int .u8 (gt x.Seed 16) :: .int .u8 (gt x.Seed 17) :: .int .u8 (gt x.Seed 18) :: .int .u8 (gt x.Seed 19) :: .int .u8 (gt x.Seed 20) :: .int .u8 (gt x.Seed 21) :: .int .u8 (gt x.Seed 22) :: .int .u8 (gt x.Seed 23) :: .int .u8 (gt x.Seed 24) :: .int .u8 (gt x.Seed 25) :: .int .u8 (gt x.Seed 26) :: .int .u8 (gt x.Seed 27) :: .int .u8 (gt x.Seed 28) :: .int .u8 (gt x.Seed 29) :: .int .u8 (gt x.Seed 30) :: .int .u8 (gt x.Seed 31) :: .int .i64 x.Counter :: [])
attribute [go_sem] e_api_Draw
def e_api_Bases (x : S_api_Bases) : V := .agg [.int .i64 x.Group.P, .int .i64 x.Group.Q, .int .i64 x.Group.G, .int .i64 x.G1, .int .i64 x.G2, .int .i64 x.H]
attribute [go_sem] e_api_Bases
def q_api_Denom (a b : S_api_Denom) : Bool := (a.Value == b.Value && a.Depth == b.Depth)
attribute [go_sem] q_api_Denom
def e_api_Denom (x : S_api_Denom) : V := .agg [.int .i64 x.Value, .int .i64 x.Depth]
attribute [go_sem] e_api_Denom
def e_api_KeyRecord (x : S_api_KeyRecord) : V := .agg [.int .i64 x.Bank, .int .i64 x.Epoch, .int .i64 x.Denom, .int .i64 x.Value, .int .i64 x.Depth, .int .i64 x.Key.H, .int .i64 x.Key.H1, .int .i64 x.Key.H2, .int .i64 x.From, .int .i64 x.Until, .int .i64 x.Final]
attribute [go_sem] e_api_KeyRecord
def e_api_CoinView (x : S_api_CoinView) : V := .agg [.int .i64 x.M, .int .i64 x.Z, .int .i64 x.A, .int .i64 x.B, .int .i64 x.C, .int .i64 x.R]
attribute [go_sem] e_api_CoinView
def zv_311 : V := .agg (.int .u32 0 :: .int .u32 0 :: .int .u32 0 :: .int .u32 0 :: .int .u32 0 :: .int .u32 0 :: .int .u32 0 :: .int .u32 0 :: .int .u32 0 :: .int .u32 0 :: .int .u32 0 :: .int .u32 0 :: .int .u32 0 :: .int .u32 0 :: .int .u32 0 :: .int .u32 0 :: .int .u32 0 :: .int .u32 0 :: .int .u32 0 :: .int .u32 0 :: .int .u32 0 :: .int .u32 0 :: .int .u32 0 :: .int .u32 0 :: .int .u32 0 :: .int .u32 0 :: .int .u32 0 :: .int .u32 0 :: .int .u32 0 :: .int .u32 0 :: .int .u32 0 :: .int .u32 0 :: .int .u32 0 :: .int .u32 0 :: .int .u32 0 :: .int .u32 0 :: .int .u32 0 :: .int .u32 0 :: .int .u32 0 :: .int .u32 0 :: .int .u32 0 :: .int .u32 0 :: .int .u32 0 :: .int .u32 0 :: .int .u32 0 :: .int .u32 0 :: .int .u32 0 :: .int .u32 0 :: .int .u32 0 :: .int .u32 0 :: .int .u32 0 :: .int .u32 0 :: .int .u32 0 :: .int .u32 0 :: .int .u32 0 :: .int .u32 0 :: .int .u32 0 :: .int .u32 0 :: .int .u32 0 :: .int .u32 0 :: .int .u32 0 :: .int .u32 0 :: .int .u32 0 :: .int .u32 0 :: [])
attribute [go_sem] zv_311
def e_arr311 (l : (List Int)) : V := .agg (.int .u32 (gt l 0) :: .int .u32 (gt l 1) :: .int .u32 (gt l 2) :: .int .u32 (gt l 3) :: .int .u32 (gt l 4) :: .int .u32 (gt l 5) :: .int .u32 (gt l 6) :: .int .u32 (gt l 7) :: .int .u32 (gt l 8) :: .int .u32 (gt l 9) :: .int .u32 (gt l 10) :: .int .u32 (gt l 11) :: .int .u32 (gt l 12) :: .int .u32 (gt l 13) :: .int .u32 (gt l 14) :: .int .u32 (gt l 15) :: .int .u32 (gt l 16) :: .int .u32 (gt l 17) :: .int .u32 (gt l 18) :: .int .u32 (gt l 19) :: .int .u32 (gt l 20) :: .int .u32 (gt l 21) :: .int .u32 (gt l 22) :: .int .u32 (gt l 23) :: .int .u32 (gt l 24) :: .int .u32 (gt l 25) :: .int .u32 (gt l 26) :: .int .u32 (gt l 27) :: .int .u32 (gt l 28) :: .int .u32 (gt l 29) :: .int .u32 (gt l 30) :: .int .u32 (gt l 31) :: .int .u32 (gt l 32) :: .int .u32 (gt l 33) :: .int .u32 (gt l 34) :: .int .u32 (gt l 35) :: .int .u32 (gt l 36) :: .int .u32 (gt l 37) :: .int .u32 (gt l 38) :: .int .u32 (gt l 39) :: .int .u32 (gt l 40) :: .int .u32 (gt l 41) :: .int .u32 (gt l 42) :: .int .u32 (gt l 43) :: .int .u32 (gt l 44) :: .int .u32 (gt l 45) :: .int .u32 (gt l 46) :: .int .u32 (gt l 47) :: .int .u32 (gt l 48) :: .int .u32 (gt l 49) :: .int .u32 (gt l 50) :: .int .u32 (gt l 51) :: .int .u32 (gt l 52) :: .int .u32 (gt l 53) :: .int .u32 (gt l 54) :: .int .u32 (gt l 55) :: .int .u32 (gt l 56) :: .int .u32 (gt l 57) :: .int .u32 (gt l 58) :: .int .u32 (gt l 59) :: .int .u32 (gt l 60) :: .int .u32 (gt l 61) :: .int .u32 (gt l 62) :: .int .u32 (gt l 63) :: [])
attribute [go_sem] e_arr311
def e_arr283 (l : (List Int)) : V := .agg [.int .u32 (gt l 0), .int .u32 (gt l 1), .int .u32 (gt l 2), .int .u32 (gt l 3), .int .u32 (gt l 4), .int .u32 (gt l 5), .int .u32 (gt l 6), .int .u32 (gt l 7)]
attribute [go_sem] e_arr283
def zv_283 : V := .agg [.int .u32 0, .int .u32 0, .int .u32 0, .int .u32 0, .int .u32 0, .int .u32 0, .int .u32 0, .int .u32 0]
attribute [go_sem] zv_283
def zv_40 : V := .agg (.int .u8 0 :: .int .u8 0 :: .int .u8 0 :: .int .u8 0 :: .int .u8 0 :: .int .u8 0 :: .int .u8 0 :: .int .u8 0 :: .int .u8 0 :: .int .u8 0 :: .int .u8 0 :: .int .u8 0 :: .int .u8 0 :: .int .u8 0 :: .int .u8 0 :: .int .u8 0 :: .int .u8 0 :: .int .u8 0 :: .int .u8 0 :: .int .u8 0 :: .int .u8 0 :: .int .u8 0 :: .int .u8 0 :: .int .u8 0 :: .int .u8 0 :: .int .u8 0 :: .int .u8 0 :: .int .u8 0 :: .int .u8 0 :: .int .u8 0 :: .int .u8 0 :: .int .u8 0 :: [])
attribute [go_sem] zv_40
def e_arr40 (l : (List Int)) : V := .agg (.int .u8 (gt l 0) :: .int .u8 (gt l 1) :: .int .u8 (gt l 2) :: .int .u8 (gt l 3) :: .int .u8 (gt l 4) :: .int .u8 (gt l 5) :: .int .u8 (gt l 6) :: .int .u8 (gt l 7) :: .int .u8 (gt l 8) :: .int .u8 (gt l 9) :: .int .u8 (gt l 10) :: .int .u8 (gt l 11) :: .int .u8 (gt l 12) :: .int .u8 (gt l 13) :: .int .u8 (gt l 14) :: .int .u8 (gt l 15) :: .int .u8 (gt l 16) :: .int .u8 (gt l 17) :: .int .u8 (gt l 18) :: .int .u8 (gt l 19) :: .int .u8 (gt l 20) :: .int .u8 (gt l 21) :: .int .u8 (gt l 22) :: .int .u8 (gt l 23) :: .int .u8 (gt l 24) :: .int .u8 (gt l 25) :: .int .u8 (gt l 26) :: .int .u8 (gt l 27) :: .int .u8 (gt l 28) :: .int .u8 (gt l 29) :: .int .u8 (gt l 30) :: .int .u8 (gt l 31) :: [])
attribute [go_sem] e_arr40
def e_draw_source (x : S_draw_source) : V := .agg (.int .u8 (gt x.d.Seed 0) :: .int .u8 (gt x.d.Seed 1) :: .int .u8 (gt x.d.Seed 2) :: .int .u8 (gt x.d.Seed 3) :: .int .u8 (gt x.d.Seed 4) :: .int .u8 (gt x.d.Seed 5) :: .int .u8 (gt x.d.Seed 6) :: .int .u8 (gt x.d.Seed 7) :: .int .u8 (gt x.d.Seed 8) :: .int .u8 (gt x.d.Seed 9) :: .int .u8 (gt x.d.Seed 10) :: .int .u8 (gt x.d.Seed 11) :: .int .u8 (gt x.d.Seed 12) :: .int .u8 (gt x.d.Seed 13) :: .int .u8 (gt x.d.Seed 14) :: .int .u8 (gt x.d.Seed 15) :: .int .u8 (gt x.d.Seed 16) :: .int .u8 (gt x.d.Seed 17) :: .int .u8 (gt x.d.Seed 18) :: .int .u8 (gt x.d.Seed 19) :: .int .u8 (gt x.d.Seed 20) :: .int .u8 (gt x.d.Seed 21) :: .int .u8 (gt x.d.Seed 22) :: .int .u8 (gt x.d.Seed 23) :: .int .u8 (gt x.d.Seed 24) :: .int .u8 (gt x.d.Seed 25) :: .int .u8 (gt x.d.Seed 26) :: .int .u8 (gt x.d.Seed 27) :: .int .u8 (gt x.d.Seed 28) :: .int .u8 (gt x.d.Seed 29) :: .int .u8 (gt x.d.Seed 30) :: .int .u8 (gt x.d.Seed 31) :: .int .i64 x.d.Counter :: .bool x.full :: [])
attribute [go_sem] e_draw_source
def zv_145 : V := .agg (.int .u8 0 :: .int .u8 0 :: .int .u8 0 :: .int .u8 0 :: .int .u8 0 :: .int .u8 0 :: .int .u8 0 :: .int .u8 0 :: .int .u8 0 :: .int .u8 0 :: .int .u8 0 :: .int .u8 0 :: .int .u8 0 :: .int .u8 0 :: .int .u8 0 :: .int .u8 0 :: .int .u8 0 :: .int .u8 0 :: .int .u8 0 :: .int .u8 0 :: .int .u8 0 :: .int .u8 0 :: .int .u8 0 :: .int .u8 0 :: .int .u8 0 :: .int .u8 0 :: .int .u8 0 :: .int .u8 0 :: .int .u8 0 :: .int .u8 0 :: .int .u8 0 :: .int .u8 0 :: .int .i64 0 :: [])
attribute [go_sem] zv_145
def e_api_Item (x : S_api_Item) : V := .agg [.int .i64 x.Kind, .int .i64 x.N, .sl none 1 false (x.B.map (V.int .u8)), .sl none 4 true (x.L.map e_api_Item)]
termination_by SizeOf.sizeOf x
decreasing_by
 rename_i y h
 have := List.sizeOf_lt_of_mem h
 cases x
 simp at *
 omega
attribute [go_sem] e_api_Item
def q_api_CoinView (a b : S_api_CoinView) : Bool := (a.M == b.M && (a.Z == b.Z && (a.A == b.A && (a.B == b.B && (a.C == b.C && a.R == b.R)))))
attribute [go_sem] q_api_CoinView
def q_api_Coin (a b : S_api_Coin) : Bool := (a.Bank == b.Bank && (a.Epoch == b.Epoch && (a.Denom == b.Denom && (a.Depth == b.Depth && (a.A == b.A && ((gt a.Root 0) == (gt b.Root 0) && ((gt a.Root 1) == (gt b.Root 1) && ((gt a.Root 2) == (gt b.Root 2) && ((gt a.Root 3) == (gt b.Root 3) && ((gt a.Root 4) == (gt b.Root 4) && ((gt a.Root 5) == (gt b.Root 5) && ((gt a.Root 6) == (gt b.Root 6) && ((gt a.Root 7) == (gt b.Root 7) && ((gt a.Root 8) == (gt b.Root 8) && ((gt a.Root 9) == (gt b.Root 9) && ((gt a.Root 10) == (gt b.Root 10) && ((gt a.Root 11) == (gt b.Root 11) && ((gt a.Root 12) == (gt b.Root 12) && ((gt a.Root 13) == (gt b.Root 13) && ((gt a.Root 14) == (gt b.Root 14) && ((gt a.Root 15) == (gt b.Root 15) && ((gt a.Root 16) == (gt b.Root 16) && ((gt a.Root 17) == (gt b.Root 17) && ((gt a.Root 18) == (gt b.Root 18) && ((gt a.Root 19) == (gt b.Root 19) && ((gt a.Root 20) == (gt b.Root 20) && ((gt a.Root 21) == (gt b.Root 21) && ((gt a.Root 22) == (gt b.Root 22) && ((gt a.Root 23) == (gt b.Root 23) && ((gt a.Root 24) == (gt b.Root 24) && ((gt a.Root 25) == (gt b.Root 25) && ((gt a.Root 26) == (gt b.Root 26) && ((gt a.Root 27) == (gt b.Root 27) && ((gt a.Root 28) == (gt b.Root 28) && ((gt a.Root 29) == (gt b.Root 29) && ((gt a.Root 30) == (gt b.Root 30) && ((gt a.Root 31) == (gt b.Root 31) && (a.Sign.Z == b.Sign.Z && (a.Sign.A == b.Sign.A && (a.Sign.B == b.Sign.B && a.Sign.R == b.Sign.R))))))))))))))))))))))))))))))))))))))))
attribute [go_sem] q_api_Coin
def e_api_CoinSecret (x : S_api_CoinSecret) : V := .agg [.int .i64 x.U, .int .i64 x.S, .sl none 2 true (x.X.map (fun l => .agg [.int .i64 (gt l 0), .int .i64 (gt l 1)]))]
attribute [go_sem] e_api_CoinSecret
def e_api_CoinFactors (x : S_api_CoinFactors) : V := .agg [.int .i64 x.S, .int .i64 x.U, .int .i64 x.V]
attribute [go_sem] e_api_CoinFactors
def e_api_CoinSign (x : S_api_CoinSign) : V := .agg [.int .i64 x.Z, .int .i64 x.A, .int .i64 x.B, .int .i64 x.R]
attribute [go_sem] e_api_CoinSign
def e_api_Coin (x : S_api_Coin) : V := .agg (.int .i64 x.Bank :: .int .i64 x.Epoch :: .int .i64 x.Denom :: .int .i64 x.Depth :: .int .i64 x.A :: .int .u8 (gt x.Root 0) :: .int .u8 (gt x.Root 1) :: .int .u8 (gt x.Root 2) :: .int .u8 (gt x.Root 3) :: .int .u8 (gt x.Root 4) :: .int .u8 (gt x.Root 5) :: .int .u8 (gt x.Root 6) :: .int .u8 (gt x.Root 7) :: .int .u8 (gt x.Root 8) :: .int .u8 (gt x.Root 9) :: .int .u8 (gt x.Root 10) :: .int .u8 (gt x.Root 11) :: .int .u8 (gt x.Root 12) :: .int .u8 (gt x.Root 13) :: .int .u8 (gt x.Root 14) :: .int .u8 (gt x.Root 15) :: .int .u8 (gt x.Root 16) :: .int .u8 (gt x.Root 17) :: .int .u8 (gt x.Root 18) :: .int .u8 (gt x.Root 19) :: .int .u8 (gt x.Root 20) :: .int .u8 (gt x.Root 21) :: .int .u8 (gt x.Root 22) :: .int .u8 (gt x.Root 23) :: .int .u8 (gt x.Root 24) :: .int .u8 (gt x.Root 25) :: .int .u8 (gt x.Root 26) :: .int .u8 (gt x.Root 27) :: .int .u8 (gt x.Root 28) :: .int .u8 (gt x.Root 29) :: .int .u8 (gt x.Root 30) :: .int .u8 (gt x.Root 31) :: .int .i64 x.Sign.Z :: .int .i64 x.Sign.A :: .int .i64 x.Sign.B :: .int .i64 x.Sign.R :: [])
attribute [go_sem] e_api_Coin
def zv_80 : V := .agg (.int .i64 0 :: .int .i64 0 :: .int .i64 0 :: .int .i64 0 :: .int .i64 0 :: .int .i64 0 :: .int .i64 0 :: .int .i64 0 :: .sl (some true) 2 true [] :: .int .i64 0 :: .int .i64 0 :: .int .i64 0 :: .int .i64 0 :: .int .i64 0 :: .int .i64 0 :: .int .i64 0 :: .int .i64 0 :: .int .i64 0 :: .int .i64 0 :: .int .i64 0 :: .int .i64 0 :: .int .i64 0 :: .int .i64 0 :: .int .u8 0 :: .int .u8 0 :: .int .u8 0 :: .int .u8 0 :: .int .u8 0 :: .int .u8 0 :: .int .u8 0 :: .int .u8 0 :: .int .u8 0 :: .int .u8 0 :: .int .u8 0 :: .int .u8 0 :: .int .u8 0 :: .int .u8 0 :: .int .u8 0 :: .int .u8 0 :: .int .u8 0 :: .int .u8 0 :: .int .u8 0 :: .int .u8 0 :: .int .u8 0 :: .int .u8 0 :: .int .u8 0 :: .int .u8 0 :: .int .u8 0 :: .int .u8 0 :: .int .u8 0 :: .int .u8 0 :: .int .u8 0 :: .int .u8 0 :: .int .u8 0 :: .int .u8 0 :: .int .i64 0 :: .int .i64 0 :: .int .i64 0 :: .int .i64 0 :: [])
attribute [go_sem] zv_80
def q_arr57 (a b : (List Int)) : Bool := ((gt a 0) == (gt b 0) && (gt a 1) == (gt b 1))
attribute [go_sem] q_arr57
def q_api_CoinFactors (a b : S_api_CoinFactors) : Bool := (a.S == b.S && (a.U == b.U && a.V == b.V))
attribute [go_sem] q_api_CoinFactors
end Go.Proofs.YtjnikknlcmbcmaaGreatDoor
namespace Go.Proofs.YtjnikknlcmbcmaaGreatDoor
open Go.RowKit
theorem iter_find {C : Int → Bool} {n : Int} {F : (Int → Int) → Int → Int} (hF : ∀ ag p, F ag p = if p < n then (if C p = true then p else ag (p + 1)) else -1) {d : Int → Int} :
  ∀ (fuel : Nat) (i : Int), 0 ≤ i → (n - i).toNat < fuel → (iter fuel F d i = -1 ∧ ∀ j, i ≤ j → j < n → C j = false) ∨ (i ≤ iter fuel F d i ∧ iter fuel F d i < n ∧ C (iter fuel F d i) = true ∧ ∀ j, i ≤ j → j < iter fuel F d i → C j = false) := by
 intro fuel
 induction fuel with
 | zero => intro i _ h; omega
 | succ k ih =>
  intro i h0 h
  rw [iter, hF]
  by_cases hi : i < n
  ·rw [if_pos hi]
   by_cases hc : C i = true
   ·rw [if_pos hc]
    exact .inr ⟨Int.le_refl _, hi, hc, fun j h1 h2 => by omega⟩
   ·rw [if_neg hc]
    have hc' : C i = false := by simpa using hc
    rcases ih (i + 1) (by omega) (by omega) with ⟨h1, h2⟩ | ⟨h1, h2, h3, h4⟩
    ·refine .inl ⟨h1, fun j g1 g2 => ?_⟩
     by_cases e : j = i
     ·subst e; exact hc'
     ·exact h2 j (by omega) g2
    ·refine .inr ⟨by omega, h2, h3, fun j g1 g2 => ?_⟩
     by_cases e : j = i
     ·subst e; exact hc'
     ·exact h4 j (by omega) g2
  ·rw [if_neg hi]
   exact .inl ⟨rfl, fun j h1 h2 => by omega⟩
theorem gt_map {α β : Type} [Inhabited α] [Inhabited β] {l : List α} {f : α → β} {i : Int} (h : i.toNat < l.length) : gt (l.map f) i = f (gt l i) := by
 simp [gt, List.getD_eq_getElem?_getD, h]
theorem gt_mem {α : Type} [Inhabited α] {l : List α} {i : Int} (h : i.toNat < l.length) : gt l i ∈ l := by
 simp [gt, List.getD_eq_getElem?_getD, h]
theorem iter_map {α β R : Type} [Inhabited α] {f : α → β} {E : Int × List β → R} {l : List α} {F : (Int × List β → R) → Int × List β → R} {d : Int × List β → R}
  (hF : ∀ ag p, F ag p = if decide (p.1 < (l.length : Int)) = true then ag (p.1 + 1, p.2 ++ [f (gt l p.1)]) else E p) :
  ∀ (fuel k : Nat) (a : List β), k ≤ l.length → l.length - k < fuel → iter fuel F d ((k : Int), a) = E ((l.length : Int), a ++ (l.drop k).map f) := by
 intro fuel
 induction fuel with
 | zero => intro k a _ h; omega
 | succ n ih =>
  intro k a hl h
  rw [iter, hF]
  by_cases hk : k < l.length
  ·rw [if_pos (decide_eq_true (show (k : Int) < _ by omega))]
   have := ih (k + 1) (a ++ [f (gt l k)]) (by omega) (by omega)
   rw [show ((k + 1 : Nat) : Int) = (k : Int) + 1 by omega] at this
   have hg : gt l (k : Int) = l[k] := by simp [gt, List.getD_eq_getElem?_getD, hk]
   show iter n F d ((k : Int) + 1, a ++ [f (gt l (k : Int))]) = _
   rw [this, List.drop_eq_getElem_cons hk, hg]
   simp only [List.map_cons, List.append_assoc, List.singleton_append]
  ·obtain rfl : k = l.length := by omega
   rw [if_neg (by simp), List.drop_eq_nil_of_le (by omega)]
   simp
theorem iter_map0 {α β R : Type} [Inhabited α] (f : α → β) {E : Int × List β → R} {l : List α} {F : (Int × List β → R) → Int × List β → R} {d : Int × List β → R}
  (hF : ∀ ag p, F ag p = if decide (p.1 < (l.length : Int)) = true then ag (p.1 + 1, p.2 ++ [f (gt l p.1)]) else E p) :
  iter (((l.length : Int) - 0).toNat + 1) F d (0, []) = E ((l.length : Int), l.map f) := by
 have := iter_map (d := d) hF (((l.length : Int) - 0).toNat + 1) 0 [] (by omega) (by omega)
 simpa using this
theorem iter_any {α : Type} [Inhabited α] {l : List α} {C : α → Bool} {F : (Int → Int) → Int → Int} {d : Int → Int}
  (hF : ∀ ag p, F ag p = if decide (p < (l.length : Int)) = true then (if C (gt l p) = true then p else ag (p + 1)) else -1) :
  decide (iter (((l.length : Int) - 0).toNat + 1) F d 0 ≥ 0) = l.any C := by
 have hg : ∀ (j : Int), 0 ≤ j → j < l.length → gt l j ∈ l := fun j h0 h1 => gt_mem (by omega)
 rcases iter_find (C := fun p => C (gt l p)) (n := (l.length : Int)) (F := F) (d := d) (fun ag p => by rw [hF]; by_cases hp : p < (l.length : Int) <;> simp [hp]) (((l.length : Int) - 0).toNat + 1) 0 (by omega) (by omega) with ⟨h1, h2⟩ | ⟨h1, h2, h3, _⟩
 ·rw [h1]
  symm
  rw [show decide ((-1 : Int) ≥ 0) = false by decide, List.any_eq_false]
  intro x hx
  obtain ⟨i, hi, rfl⟩ := List.mem_iff_getElem.1 hx
  have := h2 (i : Int) (by omega) (by omega)
  simpa [gt, List.getD_eq_getElem?_getD, hi] using this
 ·rw [decide_eq_true h1]
  symm
  exact List.any_eq_true.2 ⟨_, hg _ h1 h2, h3⟩
theorem iter_rule {α R : Type} {P : α → Prop} {Q : R → Prop} {meas : α → Nat} {F : (α → R) → α → R} {d : α → R}
  (hs : ∀ ag p, P p → (∀ q, P q → meas q < meas p → Q (ag q)) → Q (F ag p)) : ∀ (fuel : Nat) (p : α), P p → meas p < fuel → Q (iter fuel F d p) := by
 intro fuel
 induction fuel with
 | zero => intro p _ h; omega
 | succ k ih =>
  intro p hp hm
  rw [iter]
  exact hs _ p hp fun q hq hlt => ih q hq (by omega)
theorem iter_allX {C : Int → Bool} {n : Int} {X : Bool} {F : (Int → Bool) → Int → Bool} (hF : ∀ ag p, F ag p = if decide (p < n) = true then (if C p = true then ag (p + 1) else false) else X) {d : Int → Bool} :
  ∀ (fuel : Nat) (i : Int), (n - i).toNat < fuel → (iter fuel F d i = true ↔ (∀ j, i ≤ j → j < n → C j = true) ∧ X = true) := by
 intro fuel
 induction fuel with
 | zero => intro i h; omega
 | succ k ih =>
  intro i h
  rw [iter, hF]
  by_cases hi : i < n
  ·rw [if_pos (decide_eq_true hi)]
   by_cases hc : C i = true
   ·rw [if_pos hc, ih (i + 1) (by omega)]
    refine ⟨fun H => ⟨fun j h1 h2 => ?_, H.2⟩, fun H => ⟨fun j h1 h2 => H.1 j (by omega) h2, H.2⟩⟩
    by_cases e : j = i
    ·subst e; exact hc
    ·exact H.1 j (by omega) h2
   ·rw [if_neg hc]
    exact ⟨fun H => Bool.noConfusion H, fun H => absurd (H.1 i (Int.le_refl _) hi) hc⟩
  ·rw [if_neg (by simpa using hi)]
   exact ⟨fun H => ⟨fun j h1 h2 => by omega, H⟩, fun H => H.2⟩
theorem iter_allL {α : Type} [Inhabited α] {l : List α} {c : α → Bool} {X : Bool} {F : (Int → Bool) → Int → Bool} {d : Int → Bool}
  (hF : ∀ ag p, F ag p = if decide (p < (l.length : Int)) = true then (if c (gt l p) = true then ag (p + 1) else false) else X) :
  iter (((l.length : Int) - 0).toNat + 1) F d 0 = (l.all c && X) := by
 rw [Bool.eq_iff_iff, iter_allX (C := fun p => c (gt l p)) hF _ _ (by omega), Bool.and_eq_true, List.all_eq_true]
 refine and_congr_left fun _ => ⟨fun h x hx => ?_, fun h j h0 h1 => h _ (gt_mem (by omega))⟩
 obtain ⟨i, hi, rfl⟩ := List.mem_iff_getElem.1 hx
 have := h (i : Int) (by omega) (by omega)
 simpa [gt, List.getD_eq_getElem?_getD, hi] using this
theorem gt_at {α : Type} [Inhabited α] {l : List α} {i : Nat} (h : i < l.length) : gt l (i : Int) = l[i] := by
 simp [gt, List.getD_eq_getElem?_getD, h]
def foldE {α σ R : Type} (st : α → σ → σ ⊕ R) (E : σ → R) : List α → σ → R
 | [], s => E s
 | a :: l, s => match st a s with
  | .inl s' => foldE st E l s'
  | .inr r => r
theorem iter_run_aux {α σ R : Type} [Inhabited α] {l : List α} {st : α → σ → σ ⊕ R} {E : σ → R} {F : (Int × σ → R) → Int × σ → R} {d : Int × σ → R}
  (hF : ∀ ag i s, F ag (i, s) = if i < (l.length : Int) then (match st (gt l i) s with | .inl s' => ag (i + 1, s') | .inr r => r) else E s) :
  ∀ (fuel k : Nat) (s : σ), k ≤ l.length → l.length - k < fuel → iter fuel F d ((k : Int), s) = foldE st E (l.drop k) s := by
 intro fuel
 induction fuel with
 | zero => intro k s _ h; omega
 | succ n ih =>
  intro k s hl h
  rw [iter, hF]
  by_cases hk : k < l.length
  ·rw [if_pos (by omega), List.drop_eq_getElem_cons hk]
   have hg : gt l (k : Int) = l[k] := by simp [gt, List.getD_eq_getElem?_getD, hk]
   rw [hg]
   simp only [foldE]
   cases st l[k] s with
   | inl s' =>
    have := ih (k + 1) s' (by omega) (by omega)
    rw [show ((k + 1 : Nat) : Int) = (k : Int) + 1 by omega] at this
    exact this
   | inr r => rfl
  ·obtain rfl : k = l.length := by omega
   rw [if_neg (by simp), List.drop_eq_nil_of_le (by omega)]; rfl
theorem iter_run {α σ R : Type} [Inhabited α] {l : List α} (st : α → σ → σ ⊕ R) (E : σ → R) {F : (Int × σ → R) → Int × σ → R} {d : Int × σ → R} {s : σ}
  (hF : ∀ ag i s, F ag (i, s) = if i < (l.length : Int) then (match st (gt l i) s with | .inl s' => ag (i + 1, s') | .inr r => r) else E s) :
  iter (((l.length : Int) - 0).toNat + 1) F d (0, s) = foldE st E l s := by
 have := iter_run_aux (d := d) hF (((l.length : Int) - 0).toNat + 1) 0 s (by omega) (by omega)
 simpa using this
theorem iter_runR_aux {α σ R : Type} [Inhabited α] {l : List α} {st : α → σ → σ ⊕ R} {E : σ → R} {F : (σ × Int → R) → σ × Int → R} {d : σ × Int → R}
  (hF : ∀ ag i s, F ag (s, i) = if i < (l.length : Int) then (match st (gt l i) s with | .inl s' => ag (s', i + 1) | .inr r => r) else E s) :
  ∀ (fuel k : Nat) (s : σ), k ≤ l.length → l.length - k < fuel → iter fuel F d (s, (k : Int)) = foldE st E (l.drop k) s := by
 intro fuel
 induction fuel with
 | zero => intro k s _ h; omega
 | succ n ih =>
  intro k s hl h
  rw [iter, hF]
  by_cases hk : k < l.length
  ·rw [if_pos (by omega), List.drop_eq_getElem_cons hk]
   have hg : gt l (k : Int) = l[k] := by simp [gt, List.getD_eq_getElem?_getD, hk]
   rw [hg]
   simp only [foldE]
   cases st l[k] s with
   | inl s' =>
    have := ih (k + 1) s' (by omega) (by omega)
    rw [show ((k + 1 : Nat) : Int) = (k : Int) + 1 by omega] at this
    exact this
   | inr r => rfl
  ·obtain rfl : k = l.length := by omega
   rw [if_neg (by simp), List.drop_eq_nil_of_le (by omega)]; rfl
theorem iter_runR {α σ R : Type} [Inhabited α] {l : List α} (st : α → σ → σ ⊕ R) (E : σ → R) {F : (σ × Int → R) → σ × Int → R} {d : σ × Int → R} {s : σ}
  (hF : ∀ ag i s, F ag (s, i) = if i < (l.length : Int) then (match st (gt l i) s with | .inl s' => ag (s', i + 1) | .inr r => r) else E s) :
  iter (((l.length : Int) - 0).toNat + 1) F d (s, 0) = foldE st E l s := by
 have := iter_runR_aux (d := d) hF (((l.length : Int) - 0).toNat + 1) 0 s (by omega) (by omega)
 simpa using this
theorem foldE_l {α σ R : Type} {g : α → σ → σ} {E : σ → R} : ∀ {l : List α} {s : σ}, foldE (fun a s => .inl (g a s)) E l s = E (l.foldl (fun s a => g a s) s)
 | [], _ => rfl
 | a :: l, s => by simp only [foldE, List.foldl_cons]; exact foldE_l
theorem arrF_full {α : Type} [Inhabited α] : ∀ {k : Nat} {i : Nat} {l : List α}, l.length = i + k → arrF l k i = l.drop i
 | 0, i, l, h => by simp [arrF, h]
 | k + 1, i, l, h => by
  have hi : i < l.length := by omega
  rw [List.drop_eq_getElem_cons hi]
  simp only [arrF]
  have := arrF_full (k := k) (i := i + 1) (l := l) (by omega)
  rw [show ((i + 1 : Nat) : Int) = (i : Int) + 1 by omega] at this
  rw [this]
  simp [gt, List.getD_eq_getElem?_getD, hi]
theorem arrN_full {α : Type} [Inhabited α] {l : List α} {n : Nat} (h : l.length = n) : arrN n l = l := by
 have := arrF_full (k := n) (i := 0) (l := l) (by omega)
 simpa [arrN] using this
theorem arrF_get {α : Type} [Inhabited α] {l : List α} : ∀ {k : Nat} {i j : Nat}, j < k → (arrF l k i).getD j default = gt l ((i + j : Nat) : Int)
 | k + 1, i, 0, _ => by simp [arrF]
 | k + 1, i, j + 1, h => by
  have := arrF_get (l := l) (k := k) (i := i + 1) (j := j) (by omega)
  simp only [arrF, List.getD_cons_succ]
  rw [show ((i : Int) + 1) = ((i + 1 : Nat) : Int) from rfl, this]
  congr 1; omega
theorem arr_get {α : Type} [Inhabited α] {f : α → V} {n : Nat} {l : List α} {i : Int} (h : 0 ≤ i ∧ i.toNat < n) : ((arrN n l).map f).getD (0 + i.toNat * 1) .un = f (gt l i) := by
 have h1 : (arrN n l).length = n := arrN_len
 have h2 := arrF_get (l := l) (k := n) (i := 0) (j := i.toNat) h.2
 have h3 : gt (arrN n l) i = gt l i := by
  rw [show gt (arrN n l) i = (arrF l n ((0 : Nat) : Int)).getD i.toNat default from rfl, h2]
  congr 1; omega
 rw [← h3]
 simp [gt, List.getD_eq_getElem?_getD, h1, h.2]
theorem arr_get1 {α : Type} [Inhabited α] {f : α → V} {n : Nat} {l : List α} {i : Int} (h : 0 ≤ i ∧ i.toNat < n) : ((arrN n l).map f).getD (i.toNat * 1) .un = f (gt l i) := by
 have := arr_get (f := f) (n := n) (l := l) (i := i) h
 rwa [Nat.zero_add] at this
theorem pp_get {α : Type} [Inhabited α] {f : α → V} {l : List α} {n : Nat} {i : Int} (hl : l.length = n) (h : 0 ≤ i ∧ i.toNat < n) : (l.map f).getD (i.toNat * 1) .un = f (gt l i) := by
 subst hl
 simp [gt, List.getD_eq_getElem?_getD, h.2]
theorem arr_put {α : Type} [Inhabited α] {f : α → V} {n : Nat} {l : List α} {i : Int} {v : α} (hl : l.length = n) (h : 0 ≤ i ∧ i.toNat < n) : (l.map f).take (0 + i.toNat * 1) ++ [f v] ++ (l.map f).drop (0 + i.toNat * 1 + 1) = (arrN n (st l i v)).map f := by
 rw [arrN_full (by rw [st_len]; exact hl)]
 unfold st
 rw [List.set_eq_take_append_cons_drop, if_pos (by omega)]
 simp [List.map_take, List.map_drop]
def remA {β : Type} (i : Nat) : List (Nat × β) → List (Nat × β)
 | [] => []
 | (k, b) :: l => if k = i then remA i l else (k, b) :: remA i l
attribute [go_sem] remA
theorem notif {b x : Bool} : (if (!b) = true then false else x) = (if b = true then x else false) := by cases b <;> rfl
end Go.Proofs.YtjnikknlcmbcmaaGreatDoor
namespace Go.Proofs.YtjnikknlcmbcmaaGreatDoor
open Go.RowKit
set_option linter.unusedVariables false
set_option linter.unusedSimpArgs false
def valA : Int → List Int → Int
 | a, [] => a
 | a, x :: l => valA (256 * a + x) l
def be : Nat → Int → List Int
 | 0, _ => []
 | k + 1, n => be k (n / 256) ++ [n % 256]
def isB (l : List Int) : Prop := ∀ x ∈ l, 0 ≤ x ∧ x ≤ 255
theorem be_len : ∀ {k : Nat} {n : Int}, (be k n).length = k
 | 0, _ => rfl
 | k + 1, n => by simp [be, be_len (k := k)]
theorem mod_step (n m : Int) (h : 0 < m) : n % (256 * m) = 256 * (n / 256 % m) + n % 256 := by
 have h1 := Int.mul_ediv_add_emod n 256
 have h2 := Int.mul_ediv_add_emod (n / 256) m
 have h3 := Int.emod_nonneg (n / 256) (show m ≠ 0 by omega)
 have h4 := Int.emod_lt_of_pos (n / 256) h
 generalize n / 256 % m = s at *
 generalize hq : n / 256 / m = t at *
 have e : n = (256 * s + n % 256) + 256 * m * t := by
  have : 256 * m * t = 256 * (m * t) := by rw [Int.mul_assoc]
  omega
 have e2 : n % (256 * m) = (256 * s + n % 256) % (256 * m) := by
  conv => lhs; rw [e]
  rw [Int.add_mul_emod_self_left]
 rw [e2]
 exact Int.emod_eq_of_lt (by omega) (by omega)
theorem val_bd : ∀ {l : List Int}, isB l → ∀ {a m : Int}, 0 ≤ a → a < m → 0 ≤ valA a l ∧ valA a l < m * 256 ^ l.length
 | [], _, a, m, h0, h1 => by simpa [valA] using ⟨h0, h1⟩
 | x :: l, h, a, m, h0, h1 => by
  have hx := h x (by simp)
  have h2 := val_bd (l := l) (fun y hy => h y (by simp [hy])) (a := 256 * a + x) (m := m * 256) (by omega) (by omega)
  simp only [valA, List.length_cons]
  rw [Int.pow_succ, Int.mul_comm (256 ^ l.length), ← Int.mul_assoc]
  exact h2
theorem val_bd0 {l : List Int} (h : isB l) : 0 ≤ valA 0 l ∧ valA 0 l < 256 ^ l.length := by
 have := val_bd h (a := 0) (m := 1) (by omega) (by omega)
 simpa using this
theorem be_mod : ∀ {k : Nat} {n m : Int}, n % 256 ^ k = m % 256 ^ k → be k n = be k m
 | 0, _, _, _ => rfl
 | k + 1, n, m, h => by
  have hp : (0 : Int) < 256 ^ k := Int.pow_pos (by omega)
  rw [show (256 : Int) ^ (k + 1) = 256 * 256 ^ k by rw [Int.pow_succ, Int.mul_comm], mod_step _ _ hp, mod_step _ _ hp] at h
  have h1 := Int.emod_nonneg (n / 256) (show (256 : Int) ^ k ≠ 0 by omega)
  have h2 := Int.emod_nonneg (m / 256) (show (256 : Int) ^ k ≠ 0 by omega)
  simp only [be]
  rw [show n % 256 = m % 256 by omega, be_mod (k := k) (show n / 256 % 256 ^ k = m / 256 % 256 ^ k by omega)]
mutual
def hgt : S_api_Item → Nat
 | ⟨_, _, b, l⟩ => 1 + b.length + hgtL l
def hgtL : List S_api_Item → Nat
 | [] => 0
 | x :: l => hgt x + hgtL l
end
theorem hgt_mem : ∀ {l : List S_api_Item} {x : S_api_Item}, x ∈ l → hgt x ≤ hgtL l
 | y :: l, x, h => by
  simp only [hgtL]
  rcases List.mem_cons.1 h with rfl | h
  ·omega
  ·have := hgt_mem h; omega
theorem hgt_eq (i : S_api_Item) : hgt i = 1 + i.B.length + hgtL i.L := by cases i; rfl
theorem hgt_L {i x : S_api_Item} (h : x ∈ i.L) : hgt x < hgt i := by
 have := hgt_mem h
 rw [hgt_eq i]; omega
mutual
def withinM : S_api_Item → Int → Bool
 | ⟨k, n, b, l⟩, d => if k == 1 then b.isEmpty && l.isEmpty else if k == 2 then n == 0 && l.isEmpty else if k == 3 then n == 0 && (b.isEmpty && (decide (0 < d) && (decide (l.length ≤ 1000) && withinL l (d - 1)))) else false
def withinL : List S_api_Item → Int → Bool
 | [], _ => true
 | x :: l, d => withinM x d && withinL l d
end
theorem withinL_all : ∀ {l : List S_api_Item} {d : Int}, withinL l d = l.all (fun x => withinM x d)
 | [], _ => rfl
 | x :: l, d => by simp only [withinL, List.all_cons, withinL_all (l := l)]
def failR (r : S_encode_reader) (e : Int) : S_encode_reader := if r.e == 0 then { b := r.b, e := e } else r
def takeR (r : S_encode_reader) (n : Int) : List Int × S_encode_reader :=
 if r.e ≠ 0 ∨ n > r.b.length then ([], failR r 4) else (r.b.take n.toNat, { b := r.b.drop n.toNat, e := r.e })
def valO (l : List Int) : Int := l.foldl (fun a x => orI .u64 (shlI .u64 a 8) (convI .u64 x)) 0
def numR (r : S_encode_reader) (n : Int) : Int × S_encode_reader := (valO (takeR r n).1, (takeR r n).2)
theorem wrap_u64 {a : Int} (h0 : 0 ≤ a) (h1 : a < 18446744073709551616) : IntKind.wrap .u64 a = a := by
 simp only [IntKind.wrap, IntKind.bits, IntKind.signed]; simp; omega
theorem or_step {a x : Int} (h0 : 0 ≤ a) (h1 : a < 72057594037927936) (h2 : 0 ≤ x) (h3 : x ≤ 255) : orI .u64 (shlI .u64 a 8) (convI .u64 x) = 256 * a + x := by
 obtain ⟨n, rfl⟩ : ∃ n : Nat, a = n := ⟨a.toNat, by omega⟩
 obtain ⟨m, rfl⟩ : ∃ m : Nat, x = m := ⟨x.toNat, by omega⟩
 have e1 : shlI .u64 (n : Int) 8 = ((n * 256 : Nat) : Int) := by
  unfold shlI
  rw [show (2 : Int) ^ min (8 : Int).toNat (IntKind.bits .u64) = 256 by decide, wrap_u64 (by omega) (by omega)]; omega
 have e2 : convI .u64 (m : Int) = m := wrap_u64 (by omega) (by omega)
 rw [e1, e2]
 unfold orI
 have e3 : ∀ k : Nat, k < 18446744073709551616 → (BitVec.ofInt (IntKind.bits .u64) (k : Int)).toNat = k := by
  intro k hk
  rw [BitVec.toNat_ofInt]
  have : (((2 ^ IntKind.bits .u64 : Nat)) : Int) = 18446744073709551616 := rfl
  rw [this]; omega
 have e4 : ((BitVec.ofInt (IntKind.bits .u64) ((n * 256 : Nat) : Int)) ||| (BitVec.ofInt (IntKind.bits .u64) ((m : Nat) : Int))).toNat = 256 * n + m := by
  rw [BitVec.toNat_or, e3 _ (by omega), e3 _ (by omega)]
  have := Nat.shiftLeft_add_eq_or_of_lt (i := 8) (b := m) (by show m < 256; omega) n
  rw [Nat.shiftLeft_eq, show (2 : Nat) ^ 8 = 256 from rfl] at this
  rw [← this, Nat.mul_comm]
 rw [e4, wrap_u64 (by omega) (by omega)]; omega
theorem valO_fold : ∀ {l : List Int}, isB l → ∀ {a : Int} {k : Nat}, 0 ≤ a → a < 256 ^ k → k + l.length ≤ 8 → l.foldl (fun a x => orI .u64 (shlI .u64 a 8) (convI .u64 x)) a = valA a l
 | [], _, a, k, _, _, _ => rfl
 | x :: l, h, a, k, h0, h1, h2 => by
  have hx := h x (by simp)
  simp only [List.length_cons] at h2
  have h3 : (256 : Int) ^ k ≤ 256 ^ 7 := (by decide : ∀ k, k < 8 → (256 : Int) ^ k ≤ 256 ^ 7) k (by omega)
  have h4 : (256 : Int) ^ 7 = 72057594037927936 := by decide
  simp only [List.foldl_cons, valA]
  rw [or_step h0 (by omega) hx.1 hx.2]
  exact valO_fold (k := k + 1) (fun y hy => h y (by simp [hy])) (by omega) (by rw [Int.pow_succ]; omega) (by omega)
theorem valO_val {l : List Int} (h : isB l) (hl : l.length ≤ 8) : valO l = valA 0 l := valO_fold h (k := 0) (by omega) (by decide) (by omega)
def loopR (f : S_encode_reader → S_api_Item × S_encode_reader) : Nat → List S_api_Item → S_encode_reader → List S_api_Item × S_encode_reader
 | 0, l, r => (l, r)
 | n + 1, l, r => if r.e ≠ 0 then (l, r) else loopR f n (l ++ [(f r).1]) (f r).2
def itemG (f : Option (S_encode_reader → S_api_Item × S_encode_reader)) (r : S_encode_reader) : S_api_Item × S_encode_reader :=
 let a := numR r 1
 if convI .i64 a.1 < 1 ∨ convI .i64 a.1 > 3 ∨ (convI .i64 a.1 = 3 ∧ f.isNone = true) then (z_api_Item, failR a.2 3)
 else if convI .i64 a.1 = 1 then (⟨convI .i64 a.1, convI .i64 (numR a.2 8).1, [], []⟩, (numR a.2 8).2)
 else if convI .i64 a.1 = 2 then (⟨convI .i64 a.1, 0, (takeR (numR a.2 4).2 (convI .i64 (numR a.2 4).1)).1, []⟩, (takeR (numR a.2 4).2 (convI .i64 (numR a.2 4).1)).2)
 else match f with
  | none => default
  | some f =>
   let b := numR a.2 4
   let x := loopR f (convI .i64 b.1).toNat [] (if convI .i64 b.1 > 1000 then failR b.2 3 else b.2)
   (⟨convI .i64 a.1, 0, [], x.1⟩, x.2)
def itemN : Nat → S_encode_reader → S_api_Item × S_encode_reader
 | 0 => itemG none
 | d + 1 => itemG (some (itemN d))
def itemM (r : S_encode_reader) (depth : Int) : S_api_Item × S_encode_reader := itemN depth.toNat r
theorem loopR_err {f : S_encode_reader → S_api_Item × S_encode_reader} {n : Nat} {l : List S_api_Item} {r : S_encode_reader} (h : r.e ≠ 0) : loopR f n l r = (l, r) := by
 cases n with
 | zero => rfl
 | succ n => simp only [loopR]; rw [if_pos h]
theorem isB_take {b : List Int} (h : isB b) (n : Nat) : isB (b.take n) := fun x hx => h x (List.mem_of_mem_take hx)
theorem isB_drop {b : List Int} (h : isB b) (n : Nat) : isB (b.drop n) := fun x hx => h x (List.mem_of_mem_drop hx)
theorem takeR_isB {r : S_encode_reader} {n : Int} (h : isB r.b) : isB (takeR r n).2.b := by
 unfold takeR
 split
 ·unfold failR; split <;> exact h
 ·exact isB_drop h _
theorem failR_isB {r : S_encode_reader} {e : Int} (h : isB r.b) : isB (failR r e).b := by unfold failR; split <;> exact h
theorem loopR_isB {f : S_encode_reader → S_api_Item × S_encode_reader} (hf : ∀ r, isB r.b → isB (f r).2.b) : ∀ {n : Nat} {l : List S_api_Item} {r : S_encode_reader}, isB r.b → isB (loopR f n l r).2.b
 | 0, _, _, h => h
 | n + 1, l, r, h => by
  simp only [loopR]
  split
  ·exact h
  ·exact loopR_isB hf (hf r h)
theorem itemG_isB {f : Option (S_encode_reader → S_api_Item × S_encode_reader)} (hf : ∀ g, f = some g → ∀ r, isB r.b → isB (g r).2.b) {r : S_encode_reader} (h : isB r.b) : isB (itemG f r).2.b := by
 have h1 : isB (numR r 1).2.b := takeR_isB h
 simp only [itemG]
 split
 ·exact failR_isB h1
 split
 ·exact takeR_isB h1
 split
 ·exact takeR_isB (takeR_isB h1)
 cases f with
 | none => intro x hx; cases hx
 | some g =>
  refine loopR_isB (hf g rfl) ?_
  split
  ·exact failR_isB (takeR_isB h1)
  ·exact takeR_isB h1
theorem itemN_isB : ∀ {d : Nat} {r : S_encode_reader}, isB r.b → isB (itemN d r).2.b
 | 0, _, h => itemG_isB (fun g e => by cases e) h
 | d + 1, _, h => itemG_isB (fun g e r hr => by cases e; exact itemN_isB hr) h
theorem item_isB {r : S_encode_reader} {x : S_api_Item × S_encode_reader} {d : Int} (e : x = itemM r d) (h : isB r.b) : isB x.2.b := by rw [e]; exact itemN_isB h
theorem isB_wf : ∀ {l : List Int}, wfL (l.map (V.int .u8)) → isB l
 | [], _ => by simp [isB]
 | a :: l, h => by
  simp only [List.map_cons, wfL, wfV, rng_u8] at h
  intro x hx
  rcases List.mem_cons.1 hx with rfl | hx
  ·exact h.1
  ·exact isB_wf h.2 x hx
mutual
def writeM : List Int → S_api_Item → List Int
 | out, ⟨k, n, b, l⟩ => if out.length > 16384 then out else if k == 1 then out ++ (1 :: be 8 n) else if k == 2 then out ++ (2 :: be 4 b.length) ++ b else writeL (out ++ (k % 256 :: be 4 l.length)) l
def writeL : List Int → List S_api_Item → List Int
 | out, [] => out
 | out, x :: l => writeL (writeM out x) l
end
end Go.Proofs.YtjnikknlcmbcmaaGreatDoor
namespace Go.Proofs.YtjnikknlcmbcmaaGreatDoor
open Go.RowKit
def rvalidM (i : S_api_Item) (w : Int) : Bool := withinM i (8 - w)
end Go.Proofs.YtjnikknlcmbcmaaGreatDoor
namespace Go.Proofs.YtjnikknlcmbcmaaGreatDoor
open Go.RowKit
mutual
def sameM : S_api_Item → S_api_Item → Bool
 | ⟨k, n, b, l⟩, ⟨k', n', b', l'⟩ => k == k' && (n == n' && (b.map u8N == b'.map u8N && sameL l l'))
def sameL : List S_api_Item → List S_api_Item → Bool
 | [], [] => true
 | x :: l, y :: m => sameM x y && sameL l m
 | _, _ => false
end
mutual
def countM : S_api_Item → Int → Int
 | ⟨_, _, _, l⟩, most => countL l 1 most
def countL : List S_api_Item → Int → Int → Int
 | [], n, _ => n
 | x :: l, n, most => if n < most then countL l (addI .i64 n (countM x (subI .i64 most n))) most else n
end
end Go.Proofs.YtjnikknlcmbcmaaGreatDoor
