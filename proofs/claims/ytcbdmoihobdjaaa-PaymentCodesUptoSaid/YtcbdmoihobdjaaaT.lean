import Derived.Test.YtcbdmoihobdjaaaK
import Derived.Test.YtcbdmoihobdjaaaVK
import Derived.Test.YtcbdmoihobdjaaaVA
namespace Go.Proofs.Ytcbdmoihobdjaaa
open Go.RowKit
structure S_api_Invoice where
 Payee : (List Int)
 Amount : Int
 Time : Int
 Number : Int
def z_api_Invoice : S_api_Invoice := { Payee := [0, 0, 0, 0, 0, 0, 0, 0, 0, 0, 0, 0, 0, 0, 0, 0, 0, 0, 0, 0, 0, 0, 0, 0, 0, 0, 0, 0, 0, 0, 0, 0], Amount := (0 : Int), Time := (0 : Int), Number := (0 : Int) }
instance : Inhabited S_api_Invoice := ⟨z_api_Invoice⟩
@[go_sem] theorem z_api_Invoice_Payee : z_api_Invoice.Payee = [0, 0, 0, 0, 0, 0, 0, 0, 0, 0, 0, 0, 0, 0, 0, 0, 0, 0, 0, 0, 0, 0, 0, 0, 0, 0, 0, 0, 0, 0, 0, 0] := Eq.trans rfl rfl
@[go_sem] theorem z_api_Invoice_Amount : z_api_Invoice.Amount = (0 : Int) := Eq.trans rfl rfl
@[go_sem] theorem z_api_Invoice_Time : z_api_Invoice.Time = (0 : Int) := Eq.trans rfl rfl
@[go_sem] theorem z_api_Invoice_Number : z_api_Invoice.Number = (0 : Int) := Eq.trans rfl rfl
structure S_api_Item where
 Kind : Int
 N : Int
 B : (List Int)
 L : (List S_api_Item)
def z_api_Item : S_api_Item := { Kind := (0 : Int), N := (0 : Int), B := [], L := [] }
instance : Inhabited S_api_Item := ⟨z_api_Item⟩
@[go_sem] theorem z_api_Item_Kind : z_api_Item.Kind = (0 : Int) := Eq.trans rfl rfl
@[go_sem] theorem z_api_Item_N : z_api_Item.N = (0 : Int) := Eq.trans rfl rfl
@[go_sem] theorem z_api_Item_B : z_api_Item.B = [] := Eq.trans rfl rfl
@[go_sem] theorem z_api_Item_L : z_api_Item.L = [] := Eq.trans rfl rfl
structure S_encode_reader where
 b : (List Int)
 e : Int
def z_encode_reader : S_encode_reader := { b := [], e := (0 : Int) }
instance : Inhabited S_encode_reader := ⟨z_encode_reader⟩
@[go_sem] theorem z_encode_reader_b : z_encode_reader.b = [] := Eq.trans rfl rfl
@[go_sem] theorem z_encode_reader_e : z_encode_reader.e = (0 : Int) := Eq.trans rfl rfl
structure S_api_CoinSign where
 Z : Int
 A : Int
 B : Int
 R : Int
def z_api_CoinSign : S_api_CoinSign := { Z := (0 : Int), A := (0 : Int), B := (0 : Int), R := (0 : Int) }
instance : Inhabited S_api_CoinSign := ⟨z_api_CoinSign⟩
@[go_sem] theorem z_api_CoinSign_Z : z_api_CoinSign.Z = (0 : Int) := Eq.trans rfl rfl
@[go_sem] theorem z_api_CoinSign_A : z_api_CoinSign.A = (0 : Int) := Eq.trans rfl rfl
@[go_sem] theorem z_api_CoinSign_B : z_api_CoinSign.B = (0 : Int) := Eq.trans rfl rfl
@[go_sem] theorem z_api_CoinSign_R : z_api_CoinSign.R = (0 : Int) := Eq.trans rfl rfl
structure S_api_Coin where
 Bank : Int
 Epoch : Int
 Denom : Int
 Depth : Int
 A : Int
 Root : (List Int)
 Sign : S_api_CoinSign
def z_api_Coin : S_api_Coin := { Bank := (0 : Int), Epoch := (0 : Int), Denom := (0 : Int), Depth := (0 : Int), A := (0 : Int), Root := [0, 0, 0, 0, 0, 0, 0, 0, 0, 0, 0, 0, 0, 0, 0, 0, 0, 0, 0, 0, 0, 0, 0, 0, 0, 0, 0, 0, 0, 0, 0, 0], Sign := z_api_CoinSign }
instance : Inhabited S_api_Coin := ⟨z_api_Coin⟩
@[go_sem] theorem z_api_Coin_Bank : z_api_Coin.Bank = (0 : Int) := Eq.trans rfl rfl
@[go_sem] theorem z_api_Coin_Epoch : z_api_Coin.Epoch = (0 : Int) := Eq.trans rfl rfl
@[go_sem] theorem z_api_Coin_Denom : z_api_Coin.Denom = (0 : Int) := Eq.trans rfl rfl
@[go_sem] theorem z_api_Coin_Depth : z_api_Coin.Depth = (0 : Int) := Eq.trans rfl rfl
@[go_sem] theorem z_api_Coin_A : z_api_Coin.A = (0 : Int) := Eq.trans rfl rfl
@[go_sem] theorem z_api_Coin_Root : z_api_Coin.Root = [0, 0, 0, 0, 0, 0, 0, 0, 0, 0, 0, 0, 0, 0, 0, 0, 0, 0, 0, 0, 0, 0, 0, 0, 0, 0, 0, 0, 0, 0, 0, 0] := Eq.trans rfl rfl
@[go_sem] theorem z_api_Coin_Sign : z_api_Coin.Sign = z_api_CoinSign := Eq.trans rfl rfl
structure S_api_Node where
 Level : Int
 Index : Int
def z_api_Node : S_api_Node := { Level := (0 : Int), Index := (0 : Int) }
instance : Inhabited S_api_Node := ⟨z_api_Node⟩
@[go_sem] theorem z_api_Node_Level : z_api_Node.Level = (0 : Int) := Eq.trans rfl rfl
@[go_sem] theorem z_api_Node_Index : z_api_Node.Index = (0 : Int) := Eq.trans rfl rfl
structure S_api_Context where
 Payee : (List Int)
 Time : Int
 Number : Int
def z_api_Context : S_api_Context := { Payee := [0, 0, 0, 0, 0, 0, 0, 0, 0, 0, 0, 0, 0, 0, 0, 0, 0, 0, 0, 0, 0, 0, 0, 0, 0, 0, 0, 0, 0, 0, 0, 0], Time := (0 : Int), Number := (0 : Int) }
instance : Inhabited S_api_Context := ⟨z_api_Context⟩
@[go_sem] theorem z_api_Context_Payee : z_api_Context.Payee = [0, 0, 0, 0, 0, 0, 0, 0, 0, 0, 0, 0, 0, 0, 0, 0, 0, 0, 0, 0, 0, 0, 0, 0, 0, 0, 0, 0, 0, 0, 0, 0] := Eq.trans rfl rfl
@[go_sem] theorem z_api_Context_Time : z_api_Context.Time = (0 : Int) := Eq.trans rfl rfl
@[go_sem] theorem z_api_Context_Number : z_api_Context.Number = (0 : Int) := Eq.trans rfl rfl
structure S_api_Leaf where
 B : Int
 R1 : Int
 R2 : Int
def z_api_Leaf : S_api_Leaf := { B := (0 : Int), R1 := (0 : Int), R2 := (0 : Int) }
instance : Inhabited S_api_Leaf := ⟨z_api_Leaf⟩
@[go_sem] theorem z_api_Leaf_B : z_api_Leaf.B = (0 : Int) := Eq.trans rfl rfl
@[go_sem] theorem z_api_Leaf_R1 : z_api_Leaf.R1 = (0 : Int) := Eq.trans rfl rfl
@[go_sem] theorem z_api_Leaf_R2 : z_api_Leaf.R2 = (0 : Int) := Eq.trans rfl rfl
structure S_api_Path where
 Index : Int
 L : (List (List Int))
def z_api_Path : S_api_Path := { Index := (0 : Int), L := [] }
instance : Inhabited S_api_Path := ⟨z_api_Path⟩
@[go_sem] theorem z_api_Path_Index : z_api_Path.Index = (0 : Int) := Eq.trans rfl rfl
@[go_sem] theorem z_api_Path_L : z_api_Path.L = [] := Eq.trans rfl rfl
structure S_api_Spend where
 Coin : S_api_Coin
 Node : S_api_Node
 Context : S_api_Context
 Leaves : (List S_api_Leaf)
 Path : S_api_Path
def z_api_Spend : S_api_Spend := { Coin := z_api_Coin, Node := z_api_Node, Context := z_api_Context, Leaves := [], Path := z_api_Path }
instance : Inhabited S_api_Spend := ⟨z_api_Spend⟩
@[go_sem] theorem z_api_Spend_Coin : z_api_Spend.Coin = z_api_Coin := Eq.trans rfl rfl
@[go_sem] theorem z_api_Spend_Node : z_api_Spend.Node = z_api_Node := Eq.trans rfl rfl
@[go_sem] theorem z_api_Spend_Context : z_api_Spend.Context = z_api_Context := Eq.trans rfl rfl
@[go_sem] theorem z_api_Spend_Leaves : z_api_Spend.Leaves = [] := Eq.trans rfl rfl
@[go_sem] theorem z_api_Spend_Path : z_api_Spend.Path = z_api_Path := Eq.trans rfl rfl
structure S_api_Chain where
 First : S_api_Spend
 L : (List S_api_Spend)
def z_api_Chain : S_api_Chain := { First := z_api_Spend, L := [] }
instance : Inhabited S_api_Chain := ⟨z_api_Chain⟩
@[go_sem] theorem z_api_Chain_First : z_api_Chain.First = z_api_Spend := Eq.trans rfl rfl
@[go_sem] theorem z_api_Chain_L : z_api_Chain.L = [] := Eq.trans rfl rfl
structure S_api_Proof where
 A : (List Int)
 C : Int
 Z : (List Int)
def z_api_Proof : S_api_Proof := { A := [], C := (0 : Int), Z := [] }
instance : Inhabited S_api_Proof := ⟨z_api_Proof⟩
@[go_sem] theorem z_api_Proof_A : z_api_Proof.A = [] := Eq.trans rfl rfl
@[go_sem] theorem z_api_Proof_C : z_api_Proof.C = (0 : Int) := Eq.trans rfl rfl
@[go_sem] theorem z_api_Proof_Z : z_api_Proof.Z = [] := Eq.trans rfl rfl
structure S_api_Escrow where
 E1 : Int
 E2 : Int
 Proof : S_api_Proof
def z_api_Escrow : S_api_Escrow := { E1 := (0 : Int), E2 := (0 : Int), Proof := z_api_Proof }
instance : Inhabited S_api_Escrow := ⟨z_api_Escrow⟩
@[go_sem] theorem z_api_Escrow_E1 : z_api_Escrow.E1 = (0 : Int) := Eq.trans rfl rfl
@[go_sem] theorem z_api_Escrow_E2 : z_api_Escrow.E2 = (0 : Int) := Eq.trans rfl rfl
@[go_sem] theorem z_api_Escrow_Proof : z_api_Escrow.Proof = z_api_Proof := Eq.trans rfl rfl
structure S_api_Payment where
 Number : Int
 Spends : (List S_api_Spend)
 Chains : (List S_api_Chain)
 Escrow : (List S_api_Escrow)
def z_api_Payment : S_api_Payment := { Number := (0 : Int), Spends := [], Chains := [], Escrow := [] }
instance : Inhabited S_api_Payment := ⟨z_api_Payment⟩
@[go_sem] theorem z_api_Payment_Number : z_api_Payment.Number = (0 : Int) := Eq.trans rfl rfl
@[go_sem] theorem z_api_Payment_Spends : z_api_Payment.Spends = [] := Eq.trans rfl rfl
@[go_sem] theorem z_api_Payment_Chains : z_api_Payment.Chains = [] := Eq.trans rfl rfl
@[go_sem] theorem z_api_Payment_Escrow : z_api_Payment.Escrow = [] := Eq.trans rfl rfl
structure S_coin_writer where
 l : (List S_api_Item)
def z_coin_writer : S_coin_writer := { l := [] }
instance : Inhabited S_coin_writer := ⟨z_coin_writer⟩
@[go_sem] theorem z_coin_writer_l : z_coin_writer.l = [] := Eq.trans rfl rfl
structure S_api_Use where
 A : Int
 B : Int
 Spend : S_api_Spend
 Leaf : Int
def z_api_Use : S_api_Use := { A := (0 : Int), B := (0 : Int), Spend := z_api_Spend, Leaf := (0 : Int) }
instance : Inhabited S_api_Use := ⟨z_api_Use⟩
@[go_sem] theorem z_api_Use_A : z_api_Use.A = (0 : Int) := Eq.trans rfl rfl
@[go_sem] theorem z_api_Use_B : z_api_Use.B = (0 : Int) := Eq.trans rfl rfl
@[go_sem] theorem z_api_Use_Spend : z_api_Use.Spend = z_api_Spend := Eq.trans rfl rfl
@[go_sem] theorem z_api_Use_Leaf : z_api_Use.Leaf = (0 : Int) := Eq.trans rfl rfl
def e_api_Invoice (x : S_api_Invoice) : V := .agg (.int .u8 (gt x.Payee 0) :: .int .u8 (gt x.Payee 1) :: .int .u8 (gt x.Payee 2) :: .int .u8 (gt x.Payee 3) :: .int .u8 (gt x.Payee 4) :: .int .u8 (gt x.Payee 5) :: .int .u8 (gt x.Payee 6) :: .int .u8 (gt x.Payee 7) :: .int .u8 (gt x.Payee 8) :: .int .u8 (gt x.Payee 9) :: .int .u8 (gt x.Payee 10) :: .int .u8 (gt x.Payee 11) :: .int .u8 (gt x.Payee 12) :: .int .u8 (gt x.Payee 13) :: .int .u8 (gt x.Payee 14) :: .int .u8 (gt x.Payee 15) :: .int .u8 (gt x.Payee 16) :: .int .u8 (gt x.Payee 17) :: .int .u8 (gt x.Payee 18) :: .int .u8 (gt x.Payee 19) :: .int .u8 (gt x.Payee 20) :: .int .u8 (gt x.Payee 21) :: .int .u8 (gt x.Payee 22) :: .int .u8 (gt x.Payee 23) :: .int .u8 (gt x.Payee 24) :: .int .u8 (gt x.Payee 25) :: .int .u8 (gt x.Payee 26) :: .int .u8 (gt x.Payee 27) :: .int .u8 (gt x.Payee 28) :: .int .u8 (gt x.Payee 29) :: .int .u8 (gt x.Payee 30) :: .int .u8 (gt x.Payee 31) :: .int .i64 x.Amount :: .int .i64 x.Time :: .int .i64 x.Number :: [])
attribute [go_sem] e_api_Invoice
def e_api_Item (x : S_api_Item) : V := .agg [.int .i64 x.Kind, .int .i64 x.N, .sl none 1 false (x.B.map (V.int .u8)), .sl none 4 true (x.L.map e_api_Item)]
termination_by SizeOf.sizeOf x
decreasing_by
 rename_i y h
 have := List.sizeOf_lt_of_mem h
 cases x
 simp at *
 omega
attribute [go_sem] e_api_Item
def q_api_Invoice (a b : S_api_Invoice) : Bool := ((gt a.Payee 0) == (gt b.Payee 0) && ((gt a.Payee 1) == (gt b.Payee 1) && ((gt a.Payee 2) == (gt b.Payee 2) && ((gt a.Payee 3) == (gt b.Payee 3) && ((gt a.Payee 4) == (gt b.Payee 4) && ((gt a.Payee 5) == (gt b.Payee 5) && ((gt a.Payee 6) == (gt b.Payee 6) && ((gt a.Payee 7) == (gt b.Payee 7) && ((gt a.Payee 8) == (gt b.Payee 8) && ((gt a.Payee 9) == (gt b.Payee 9) && ((gt a.Payee 10) == (gt b.Payee 10) && ((gt a.Payee 11) == (gt b.Payee 11) && ((gt a.Payee 12) == (gt b.Payee 12) && ((gt a.Payee 13) == (gt b.Payee 13) && ((gt a.Payee 14) == (gt b.Payee 14) && ((gt a.Payee 15) == (gt b.Payee 15) && ((gt a.Payee 16) == (gt b.Payee 16) && ((gt a.Payee 17) == (gt b.Payee 17) && ((gt a.Payee 18) == (gt b.Payee 18) && ((gt a.Payee 19) == (gt b.Payee 19) && ((gt a.Payee 20) == (gt b.Payee 20) && ((gt a.Payee 21) == (gt b.Payee 21) && ((gt a.Payee 22) == (gt b.Payee 22) && ((gt a.Payee 23) == (gt b.Payee 23) && ((gt a.Payee 24) == (gt b.Payee 24) && ((gt a.Payee 25) == (gt b.Payee 25) && ((gt a.Payee 26) == (gt b.Payee 26) && ((gt a.Payee 27) == (gt b.Payee 27) && ((gt a.Payee 28) == (gt b.Payee 28) && ((gt a.Payee 29) == (gt b.Payee 29) && ((gt a.Payee 30) == (gt b.Payee 30) && ((gt a.Payee 31) == (gt b.Payee 31) && (a.Amount == b.Amount && (a.Time == b.Time && a.Number == b.Number))))))))))))))))))))))))))))))))))
attribute [go_sem] q_api_Invoice
def e_api_Leaf (x : S_api_Leaf) : V := .agg [.int .i64 x.B, .int .i64 x.R1, .int .i64 x.R2]
attribute [go_sem] e_api_Leaf
def e_arr45 (l : (List Int)) : V := .agg (.int .u8 (gt l 0) :: .int .u8 (gt l 1) :: .int .u8 (gt l 2) :: .int .u8 (gt l 3) :: .int .u8 (gt l 4) :: .int .u8 (gt l 5) :: .int .u8 (gt l 6) :: .int .u8 (gt l 7) :: .int .u8 (gt l 8) :: .int .u8 (gt l 9) :: .int .u8 (gt l 10) :: .int .u8 (gt l 11) :: .int .u8 (gt l 12) :: .int .u8 (gt l 13) :: .int .u8 (gt l 14) :: .int .u8 (gt l 15) :: .int .u8 (gt l 16) :: .int .u8 (gt l 17) :: .int .u8 (gt l 18) :: .int .u8 (gt l 19) :: .int .u8 (gt l 20) :: .int .u8 (gt l 21) :: .int .u8 (gt l 22) :: .int .u8 (gt l 23) :: .int .u8 (gt l 24) :: .int .u8 (gt l 25) :: .int .u8 (gt l 26) :: .int .u8 (gt l 27) :: .int .u8 (gt l 28) :: .int .u8 (gt l 29) :: .int .u8 (gt l 30) :: .int .u8 (gt l 31) :: [])
attribute [go_sem] e_arr45
def e_api_Spend (x : S_api_Spend) : V := .agg (.int .i64 x.Coin.Bank :: .int .i64 x.Coin.Epoch :: .int .i64 x.Coin.Denom :: .int .i64 x.Coin.Depth :: .int .i64 x.Coin.A :: .int .u8 (gt x.Coin.Root 0) :: .int .u8 (gt x.Coin.Root 1) :: .int .u8 (gt x.Coin.Root 2) :: .int .u8 (gt x.Coin.Root 3) :: .int .u8 (gt x.Coin.Root 4) :: .int .u8 (gt x.Coin.Root 5) :: .int .u8 (gt x.Coin.Root 6) :: .int .u8 (gt x.Coin.Root 7) :: .int .u8 (gt x.Coin.Root 8) :: .int .u8 (gt x.Coin.Root 9) :: .int .u8 (gt x.Coin.Root 10) :: .int .u8 (gt x.Coin.Root 11) :: .int .u8 (gt x.Coin.Root 12) :: .int .u8 (gt x.Coin.Root 13) :: .int .u8 (gt x.Coin.Root 14) :: .int .u8 (gt x.Coin.Root 15) :: .int .u8 (gt x.Coin.Root 16) :: .int .u8 (gt x.Coin.Root 17) :: .int .u8 (gt x.Coin.Root 18) :: .int .u8 (gt x.Coin.Root 19) :: .int .u8 (gt x.Coin.Root 20) :: .int .u8 (gt x.Coin.Root 21) :: .int .u8 (gt x.Coin.Root 22) :: .int .u8 (gt x.Coin.Root 23) :: .int .u8 (gt x.Coin.Root 24) :: .int .u8 (gt x.Coin.Root 25) :: .int .u8 (gt x.Coin.Root 26) :: .int .u8 (gt x.Coin.Root 27) :: .int .u8 (gt x.Coin.Root 28) :: .int .u8 (gt x.Coin.Root 29) :: .int .u8 (gt x.Coin.Root 30) :: .int .u8 (gt x.Coin.Root 31) :: .int .i64 x.Coin.Sign.Z :: .int .i64 x.Coin.Sign.A :: .int .i64 x.Coin.Sign.B :: .int .i64 x.Coin.Sign.R :: .int .i64 x.Node.Level :: .int .i64 x.Node.Index :: .int .u8 (gt x.Context.Payee 0) :: .int .u8 (gt x.Context.Payee 1) :: .int .u8 (gt x.Context.Payee 2) :: .int .u8 (gt x.Context.Payee 3) :: .int .u8 (gt x.Context.Payee 4) :: .int .u8 (gt x.Context.Payee 5) :: .int .u8 (gt x.Context.Payee 6) :: .int .u8 (gt x.Context.Payee 7) :: .int .u8 (gt x.Context.Payee 8) :: .int .u8 (gt x.Context.Payee 9) :: .int .u8 (gt x.Context.Payee 10) :: .int .u8 (gt x.Context.Payee 11) :: .int .u8 (gt x.Context.Payee 12) :: .int .u8 (gt x.Context.Payee 13) :: .int .u8 (gt x.Context.Payee 14) :: .int .u8 (gt x.Context.Payee 15) :: .int .u8 (gt x.Context.Payee 16) :: .int .u8 (gt x.Context.Payee 17) :: .int .u8 (gt x.Context.Payee 18) :: .int .u8 (gt x.Context.Payee 19) :: .int .u8 (gt x.Context.Payee 20) :: .int .u8 (gt x.Context.Payee 21) :: .int .u8 (gt x.Context.Payee 22) :: .int .u8 (gt x.Context.Payee 23) :: .int .u8 (gt x.Context.Payee 24) :: .int .u8 (gt x.Context.Payee 25) :: .int .u8 (gt x.Context.Payee 26) :: .int .u8 (gt x.Context.Payee 27) :: .int .u8 (gt x.Context.Payee 28) :: .int .u8 (gt x.Context.Payee 29) :: .int .u8 (gt x.Context.Payee 30) :: .int .u8 (gt x.Context.Payee 31) :: .int .i64 x.Context.Time :: .int .i64 x.Context.Number :: .sl none 3 true (x.Leaves.map e_api_Leaf) :: .int .i64 x.Path.Index :: .sl none 32 true (x.Path.L.map e_arr45) :: [])
attribute [go_sem] e_api_Spend
def e_api_CoinSign (x : S_api_CoinSign) : V := .agg [.int .i64 x.Z, .int .i64 x.A, .int .i64 x.B, .int .i64 x.R]
attribute [go_sem] e_api_CoinSign
def e_api_Coin (x : S_api_Coin) : V := .agg (.int .i64 x.Bank :: .int .i64 x.Epoch :: .int .i64 x.Denom :: .int .i64 x.Depth :: .int .i64 x.A :: .int .u8 (gt x.Root 0) :: .int .u8 (gt x.Root 1) :: .int .u8 (gt x.Root 2) :: .int .u8 (gt x.Root 3) :: .int .u8 (gt x.Root 4) :: .int .u8 (gt x.Root 5) :: .int .u8 (gt x.Root 6) :: .int .u8 (gt x.Root 7) :: .int .u8 (gt x.Root 8) :: .int .u8 (gt x.Root 9) :: .int .u8 (gt x.Root 10) :: .int .u8 (gt x.Root 11) :: .int .u8 (gt x.Root 12) :: .int .u8 (gt x.Root 13) :: .int .u8 (gt x.Root 14) :: .int .u8 (gt x.Root 15) :: .int .u8 (gt x.Root 16) :: .int .u8 (gt x.Root 17) :: .int .u8 (gt x.Root 18) :: .int .u8 (gt x.Root 19) :: .int .u8 (gt x.Root 20) :: .int .u8 (gt x.Root 21) :: .int .u8 (gt x.Root 22) :: .int .u8 (gt x.Root 23) :: .int .u8 (gt x.Root 24) :: .int .u8 (gt x.Root 25) :: .int .u8 (gt x.Root 26) :: .int .u8 (gt x.Root 27) :: .int .u8 (gt x.Root 28) :: .int .u8 (gt x.Root 29) :: .int .u8 (gt x.Root 30) :: .int .u8 (gt x.Root 31) :: .int .i64 x.Sign.Z :: .int .i64 x.Sign.A :: .int .i64 x.Sign.B :: .int .i64 x.Sign.R :: [])
attribute [go_sem] e_api_Coin
def e_api_Node (x : S_api_Node) : V := .agg [.int .i64 x.Level, .int .i64 x.Index]
attribute [go_sem] e_api_Node
def e_api_Context (x : S_api_Context) : V := .agg (.int .u8 (gt x.Payee 0) :: .int .u8 (gt x.Payee 1) :: .int .u8 (gt x.Payee 2) :: .int .u8 (gt x.Payee 3) :: .int .u8 (gt x.Payee 4) :: .int .u8 (gt x.Payee 5) :: .int .u8 (gt x.Payee 6) :: .int .u8 (gt x.Payee 7) :: .int .u8 (gt x.Payee 8) :: .int .u8 (gt x.Payee 9) :: .int .u8 (gt x.Payee 10) :: .int .u8 (gt x.Payee 11) :: .int .u8 (gt x.Payee 12) :: .int .u8 (gt x.Payee 13) :: .int .u8 (gt x.Payee 14) :: .int .u8 (gt x.Payee 15) :: .int .u8 (gt x.Payee 16) :: .int .u8 (gt x.Payee 17) :: .int .u8 (gt x.Payee 18) :: .int .u8 (gt x.Payee 19) :: .int .u8 (gt x.Payee 20) :: .int .u8 (gt x.Payee 21) :: .int .u8 (gt x.Payee 22) :: .int .u8 (gt x.Payee 23) :: .int .u8 (gt x.Payee 24) :: .int .u8 (gt x.Payee 25) :: .int .u8 (gt x.Payee 26) :: .int .u8 (gt x.Payee 27) :: .int .u8 (gt x.Payee 28) :: .int .u8 (gt x.Payee 29) :: .int .u8 (gt x.Payee 30) :: .int .u8 (gt x.Payee 31) :: .int .i64 x.Time :: .int .i64 x.Number :: [])
attribute [go_sem] e_api_Context
def e_api_Path (x : S_api_Path) : V := .agg [.int .i64 x.Index, .sl none 32 true (x.L.map e_arr45)]
attribute [go_sem] e_api_Path
def e_api_Chain (x : S_api_Chain) : V := .agg (.int .i64 x.First.Coin.Bank :: .int .i64 x.First.Coin.Epoch :: .int .i64 x.First.Coin.Denom :: .int .i64 x.First.Coin.Depth :: .int .i64 x.First.Coin.A :: .int .u8 (gt x.First.Coin.Root 0) :: .int .u8 (gt x.First.Coin.Root 1) :: .int .u8 (gt x.First.Coin.Root 2) :: .int .u8 (gt x.First.Coin.Root 3) :: .int .u8 (gt x.First.Coin.Root 4) :: .int .u8 (gt x.First.Coin.Root 5) :: .int .u8 (gt x.First.Coin.Root 6) :: .int .u8 (gt x.First.Coin.Root 7) :: .int .u8 (gt x.First.Coin.Root 8) :: .int .u8 (gt x.First.Coin.Root 9) :: .int .u8 (gt x.First.Coin.Root 10) :: .int .u8 (gt x.First.Coin.Root 11) :: .int .u8 (gt x.First.Coin.Root 12) :: .int .u8 (gt x.First.Coin.Root 13) :: .int .u8 (gt x.First.Coin.Root 14) :: .int .u8 (gt x.First.Coin.Root 15) :: .int .u8 (gt x.First.Coin.Root 16) :: .int .u8 (gt x.First.Coin.Root 17) :: .int .u8 (gt x.First.Coin.Root 18) :: .int .u8 (gt x.First.Coin.Root 19) :: .int .u8 (gt x.First.Coin.Root 20) :: .int .u8 (gt x.First.Coin.Root 21) :: .int .u8 (gt x.First.Coin.Root 22) :: .int .u8 (gt x.First.Coin.Root 23) :: .int .u8 (gt x.First.Coin.Root 24) :: .int .u8 (gt x.First.Coin.Root 25) :: .int .u8 (gt x.First.Coin.Root 26) :: .int .u8 (gt x.First.Coin.Root 27) :: .int .u8 (gt x.First.Coin.Root 28) :: .int .u8 (gt x.First.Coin.Root 29) :: .int .u8 (gt x.First.Coin.Root 30) :: .int .u8 (gt x.First.Coin.Root 31) :: .int .i64 x.First.Coin.Sign.Z :: .int .i64 x.First.Coin.Sign.A :: .int .i64 x.First.Coin.Sign.B :: .int .i64 x.First.Coin.Sign.R :: .int .i64 x.First.Node.Level :: .int .i64 x.First.Node.Index :: .int .u8 (gt x.First.Context.Payee 0) :: .int .u8 (gt x.First.Context.Payee 1) :: .int .u8 (gt x.First.Context.Payee 2) :: .int .u8 (gt x.First.Context.Payee 3) :: .int .u8 (gt x.First.Context.Payee 4) :: .int .u8 (gt x.First.Context.Payee 5) :: .int .u8 (gt x.First.Context.Payee 6) :: .int .u8 (gt x.First.Context.Payee 7) :: .int .u8 (gt x.First.Context.Payee 8) :: .int .u8 (gt x.First.Context.Payee 9) :: .int .u8 (gt x.First.Context.Payee 10) :: .int .u8 (gt x.First.Context.Payee 11) :: .int .u8 (gt x.First.Context.Payee 12) :: .int .u8 (gt x.First.Context.Payee 13) :: .int .u8 (gt x.First.Context.Payee 14) :: .int .u8 (gt x.First.Context.Payee 15) :: .int .u8 (gt x.First.Context.Payee 16) :: .int .u8 (gt x.First.Context.Payee 17) :: .int .u8 (gt x.First.Context.Payee 18) :: .int .u8 (gt x.First.Context.Payee 19) :: .int .u8 (gt x.First.Context.Payee 20) :: .int .u8 (gt x.First.Context.Payee 21) :: .int .u8 (gt x.First.Context.Payee 22) :: .int .u8 (gt x.First.Context.Payee 23) :: .int .u8 (gt x.First.Context.Payee 24) :: .int .u8 (gt x.First.Context.Payee 25) :: .int .u8 (gt x.First.Context.Payee 26) :: .int .u8 (gt x.First.Context.Payee 27) :: .int .u8 (gt x.First.Context.Payee 28) :: .int .u8 (gt x.First.Context.Payee 29) :: .int .u8 (gt x.First.Context.Payee 30) :: .int .u8 (gt x.First.Context.Payee 31) :: .int .i64 x.First.Context.Time :: .int .i64 x.First.Context.Number :: .sl none 3 true (x.First.Leaves.map e_api_Leaf) :: .int .i64 x.First.Path.Index :: .sl none 32 true (x.First.Path.L.map e_arr45) :: .sl none 80 true (x.L.map e_api_Spend) :: [])
attribute [go_sem] e_api_Chain
def e_api_Escrow (x : S_api_Escrow) : V := .agg [.int .i64 x.E1, .int .i64 x.E2, .sl none 1 false (x.Proof.A.map (V.int .i64)), .int .i64 x.Proof.C, .sl none 1 false (x.Proof.Z.map (V.int .i64))]
attribute [go_sem] e_api_Escrow
def e_api_Proof (x : S_api_Proof) : V := .agg [.sl none 1 false (x.A.map (V.int .i64)), .int .i64 x.C, .sl none 1 false (x.Z.map (V.int .i64))]
attribute [go_sem] e_api_Proof
def e_api_Payment (x : S_api_Payment) : V := .agg [.int .i64 x.Number, .sl none 80 true (x.Spends.map e_api_Spend), .sl none 81 true (x.Chains.map e_api_Chain), .sl none 5 true (x.Escrow.map e_api_Escrow)]
attribute [go_sem] e_api_Payment
def zv_59 : V := .agg (.int .i64 0 :: .int .i64 0 :: .int .i64 0 :: .int .i64 0 :: .int .i64 0 :: .int .u8 0 :: .int .u8 0 :: .int .u8 0 :: .int .u8 0 :: .int .u8 0 :: .int .u8 0 :: .int .u8 0 :: .int .u8 0 :: .int .u8 0 :: .int .u8 0 :: .int .u8 0 :: .int .u8 0 :: .int .u8 0 :: .int .u8 0 :: .int .u8 0 :: .int .u8 0 :: .int .u8 0 :: .int .u8 0 :: .int .u8 0 :: .int .u8 0 :: .int .u8 0 :: .int .u8 0 :: .int .u8 0 :: .int .u8 0 :: .int .u8 0 :: .int .u8 0 :: .int .u8 0 :: .int .u8 0 :: .int .u8 0 :: .int .u8 0 :: .int .u8 0 :: .int .u8 0 :: .int .i64 0 :: .int .i64 0 :: .int .i64 0 :: .int .i64 0 :: .int .i64 0 :: .int .i64 0 :: .int .u8 0 :: .int .u8 0 :: .int .u8 0 :: .int .u8 0 :: .int .u8 0 :: .int .u8 0 :: .int .u8 0 :: .int .u8 0 :: .int .u8 0 :: .int .u8 0 :: .int .u8 0 :: .int .u8 0 :: .int .u8 0 :: .int .u8 0 :: .int .u8 0 :: .int .u8 0 :: .int .u8 0 :: .int .u8 0 :: .int .u8 0 :: .int .u8 0 :: .int .u8 0 :: .int .u8 0 :: .int .u8 0 :: .int .u8 0 :: .int .u8 0 :: .int .u8 0 :: .int .u8 0 :: .int .u8 0 :: .int .u8 0 :: .int .u8 0 :: .int .u8 0 :: .int .u8 0 :: .int .i64 0 :: .int .i64 0 :: .sl (some true) 3 true [] :: .int .i64 0 :: .sl (some true) 32 true [] :: [])
attribute [go_sem] zv_59
def q_arr45 (a b : (List Int)) : Bool := ((gt a 0) == (gt b 0) && ((gt a 1) == (gt b 1) && ((gt a 2) == (gt b 2) && ((gt a 3) == (gt b 3) && ((gt a 4) == (gt b 4) && ((gt a 5) == (gt b 5) && ((gt a 6) == (gt b 6) && ((gt a 7) == (gt b 7) && ((gt a 8) == (gt b 8) && ((gt a 9) == (gt b 9) && ((gt a 10) == (gt b 10) && ((gt a 11) == (gt b 11) && ((gt a 12) == (gt b 12) && ((gt a 13) == (gt b 13) && ((gt a 14) == (gt b 14) && ((gt a 15) == (gt b 15) && ((gt a 16) == (gt b 16) && ((gt a 17) == (gt b 17) && ((gt a 18) == (gt b 18) && ((gt a 19) == (gt b 19) && ((gt a 20) == (gt b 20) && ((gt a 21) == (gt b 21) && ((gt a 22) == (gt b 22) && ((gt a 23) == (gt b 23) && ((gt a 24) == (gt b 24) && ((gt a 25) == (gt b 25) && ((gt a 26) == (gt b 26) && ((gt a 27) == (gt b 27) && ((gt a 28) == (gt b 28) && ((gt a 29) == (gt b 29) && ((gt a 30) == (gt b 30) && (gt a 31) == (gt b 31))))))))))))))))))))))))))))))))
attribute [go_sem] q_arr45
def q_api_Coin (a b : S_api_Coin) : Bool := (a.Bank == b.Bank && (a.Epoch == b.Epoch && (a.Denom == b.Denom && (a.Depth == b.Depth && (a.A == b.A && ((gt a.Root 0) == (gt b.Root 0) && ((gt a.Root 1) == (gt b.Root 1) && ((gt a.Root 2) == (gt b.Root 2) && ((gt a.Root 3) == (gt b.Root 3) && ((gt a.Root 4) == (gt b.Root 4) && ((gt a.Root 5) == (gt b.Root 5) && ((gt a.Root 6) == (gt b.Root 6) && ((gt a.Root 7) == (gt b.Root 7) && ((gt a.Root 8) == (gt b.Root 8) && ((gt a.Root 9) == (gt b.Root 9) && ((gt a.Root 10) == (gt b.Root 10) && ((gt a.Root 11) == (gt b.Root 11) && ((gt a.Root 12) == (gt b.Root 12) && ((gt a.Root 13) == (gt b.Root 13) && ((gt a.Root 14) == (gt b.Root 14) && ((gt a.Root 15) == (gt b.Root 15) && ((gt a.Root 16) == (gt b.Root 16) && ((gt a.Root 17) == (gt b.Root 17) && ((gt a.Root 18) == (gt b.Root 18) && ((gt a.Root 19) == (gt b.Root 19) && ((gt a.Root 20) == (gt b.Root 20) && ((gt a.Root 21) == (gt b.Root 21) && ((gt a.Root 22) == (gt b.Root 22) && ((gt a.Root 23) == (gt b.Root 23) && ((gt a.Root 24) == (gt b.Root 24) && ((gt a.Root 25) == (gt b.Root 25) && ((gt a.Root 26) == (gt b.Root 26) && ((gt a.Root 27) == (gt b.Root 27) && ((gt a.Root 28) == (gt b.Root 28) && ((gt a.Root 29) == (gt b.Root 29) && ((gt a.Root 30) == (gt b.Root 30) && ((gt a.Root 31) == (gt b.Root 31) && (a.Sign.Z == b.Sign.Z && (a.Sign.A == b.Sign.A && (a.Sign.B == b.Sign.B && a.Sign.R == b.Sign.R))))))))))))))))))))))))))))))))))))))))
attribute [go_sem] q_api_Coin
def q_api_Node (a b : S_api_Node) : Bool := (a.Level == b.Level && a.Index == b.Index)
attribute [go_sem] q_api_Node
def q_api_Context (a b : S_api_Context) : Bool := ((gt a.Payee 0) == (gt b.Payee 0) && ((gt a.Payee 1) == (gt b.Payee 1) && ((gt a.Payee 2) == (gt b.Payee 2) && ((gt a.Payee 3) == (gt b.Payee 3) && ((gt a.Payee 4) == (gt b.Payee 4) && ((gt a.Payee 5) == (gt b.Payee 5) && ((gt a.Payee 6) == (gt b.Payee 6) && ((gt a.Payee 7) == (gt b.Payee 7) && ((gt a.Payee 8) == (gt b.Payee 8) && ((gt a.Payee 9) == (gt b.Payee 9) && ((gt a.Payee 10) == (gt b.Payee 10) && ((gt a.Payee 11) == (gt b.Payee 11) && ((gt a.Payee 12) == (gt b.Payee 12) && ((gt a.Payee 13) == (gt b.Payee 13) && ((gt a.Payee 14) == (gt b.Payee 14) && ((gt a.Payee 15) == (gt b.Payee 15) && ((gt a.Payee 16) == (gt b.Payee 16) && ((gt a.Payee 17) == (gt b.Payee 17) && ((gt a.Payee 18) == (gt b.Payee 18) && ((gt a.Payee 19) == (gt b.Payee 19) && ((gt a.Payee 20) == (gt b.Payee 20) && ((gt a.Payee 21) == (gt b.Payee 21) && ((gt a.Payee 22) == (gt b.Payee 22) && ((gt a.Payee 23) == (gt b.Payee 23) && ((gt a.Payee 24) == (gt b.Payee 24) && ((gt a.Payee 25) == (gt b.Payee 25) && ((gt a.Payee 26) == (gt b.Payee 26) && ((gt a.Payee 27) == (gt b.Payee 27) && ((gt a.Payee 28) == (gt b.Payee 28) && ((gt a.Payee 29) == (gt b.Payee 29) && ((gt a.Payee 30) == (gt b.Payee 30) && ((gt a.Payee 31) == (gt b.Payee 31) && (a.Time == b.Time && a.Number == b.Number)))))))))))))))))))))))))))))))))
attribute [go_sem] q_api_Context
def q_api_Leaf (a b : S_api_Leaf) : Bool := (a.B == b.B && (a.R1 == b.R1 && a.R2 == b.R2))
attribute [go_sem] q_api_Leaf
def zv_45 : V := .agg (.int .u8 0 :: .int .u8 0 :: .int .u8 0 :: .int .u8 0 :: .int .u8 0 :: .int .u8 0 :: .int .u8 0 :: .int .u8 0 :: .int .u8 0 :: .int .u8 0 :: .int .u8 0 :: .int .u8 0 :: .int .u8 0 :: .int .u8 0 :: .int .u8 0 :: .int .u8 0 :: .int .u8 0 :: .int .u8 0 :: .int .u8 0 :: .int .u8 0 :: .int .u8 0 :: .int .u8 0 :: .int .u8 0 :: .int .u8 0 :: .int .u8 0 :: .int .u8 0 :: .int .u8 0 :: .int .u8 0 :: .int .u8 0 :: .int .u8 0 :: .int .u8 0 :: .int .u8 0 :: [])
attribute [go_sem] zv_45
def e_api_Use (x : S_api_Use) : V := .agg (.int .i64 x.A :: .int .i64 x.B :: .int .i64 x.Spend.Coin.Bank :: .int .i64 x.Spend.Coin.Epoch :: .int .i64 x.Spend.Coin.Denom :: .int .i64 x.Spend.Coin.Depth :: .int .i64 x.Spend.Coin.A :: .int .u8 (gt x.Spend.Coin.Root 0) :: .int .u8 (gt x.Spend.Coin.Root 1) :: .int .u8 (gt x.Spend.Coin.Root 2) :: .int .u8 (gt x.Spend.Coin.Root 3) :: .int .u8 (gt x.Spend.Coin.Root 4) :: .int .u8 (gt x.Spend.Coin.Root 5) :: .int .u8 (gt x.Spend.Coin.Root 6) :: .int .u8 (gt x.Spend.Coin.Root 7) :: .int .u8 (gt x.Spend.Coin.Root 8) :: .int .u8 (gt x.Spend.Coin.Root 9) :: .int .u8 (gt x.Spend.Coin.Root 10) :: .int .u8 (gt x.Spend.Coin.Root 11) :: .int .u8 (gt x.Spend.Coin.Root 12) :: .int .u8 (gt x.Spend.Coin.Root 13) :: .int .u8 (gt x.Spend.Coin.Root 14) :: .int .u8 (gt x.Spend.Coin.Root 15) :: .int .u8 (gt x.Spend.Coin.Root 16) :: .int .u8 (gt x.Spend.Coin.Root 17) :: .int .u8 (gt x.Spend.Coin.Root 18) :: .int .u8 (gt x.Spend.Coin.Root 19) :: .int .u8 (gt x.Spend.Coin.Root 20) :: .int .u8 (gt x.Spend.Coin.Root 21) :: .int .u8 (gt x.Spend.Coin.Root 22) :: .int .u8 (gt x.Spend.Coin.Root 23) :: .int .u8 (gt x.Spend.Coin.Root 24) :: .int .u8 (gt x.Spend.Coin.Root 25) :: .int .u8 (gt x.Spend.Coin.Root 26) :: .int .u8 (gt x.Spend.Coin.Root 27) :: .int .u8 (gt x.Spend.Coin.Root 28) :: .int .u8 (gt x.Spend.Coin.Root 29) :: .int .u8 (gt x.Spend.Coin.Root 30) :: .int .u8 (gt x.Spend.Coin.Root 31) :: .int .i64 x.Spend.Coin.Sign.Z :: .int .i64 x.Spend.Coin.Sign.A :: .int .i64 x.Spend.Coin.Sign.B :: .int .i64 x.Spend.Coin.Sign.R :: .int .i64 x.Spend.Node.Level :: .int .i64 x.Spend.Node.Index :: .int .u8 (gt x.Spend.Context.Payee 0) :: .int .u8 (gt x.Spend.Context.Payee 1) :: .int .u8 (gt x.Spend.Context.Payee 2) :: .int .u8 (gt x.Spend.Context.Payee 3) :: .int .u8 (gt x.Spend.Context.Payee 4) :: .int .u8 (gt x.Spend.Context.Payee 5) :: .int .u8 (gt x.Spend.Context.Payee 6) :: .int .u8 (gt x.Spend.Context.Payee 7) :: .int .u8 (gt x.Spend.Context.Payee 8) :: .int .u8 (gt x.Spend.Context.Payee 9) :: .int .u8 (gt x.Spend.Context.Payee 10) :: .int .u8 (gt x.Spend.Context.Payee 11) :: .int .u8 (gt x.Spend.Context.Payee 12) :: .int .u8 (gt x.Spend.Context.Payee 13) :: .int .u8 (gt x.Spend.Context.Payee 14) :: .int .u8 (gt x.Spend.Context.Payee 15) :: .int .u8 (gt x.Spend.Context.Payee 16) :: .int .u8 (gt x.Spend.Context.Payee 17) :: .int .u8 (gt x.Spend.Context.Payee 18) :: .int .u8 (gt x.Spend.Context.Payee 19) :: .int .u8 (gt x.Spend.Context.Payee 20) :: .int .u8 (gt x.Spend.Context.Payee 21) :: .int .u8 (gt x.Spend.Context.Payee 22) :: .int .u8 (gt x.Spend.Context.Payee 23) :: .int .u8 (gt x.Spend.Context.Payee 24) :: .int .u8 (gt x.Spend.Context.Payee 25) :: .int .u8 (gt x.Spend.Context.Payee 26) :: .int .u8 (gt x.Spend.Context.Payee 27) :: .int .u8 (gt x.Spend.Context.Payee 28) :: .int .u8 (gt x.Spend.Context.Payee 29) :: .int .u8 (gt x.Spend.Context.Payee 30) :: .int .u8 (gt x.Spend.Context.Payee 31) :: .int .i64 x.Spend.Context.Time :: .int .i64 x.Spend.Context.Number :: .sl none 3 true (x.Spend.Leaves.map e_api_Leaf) :: .int .i64 x.Spend.Path.Index :: .sl none 32 true (x.Spend.Path.L.map e_arr45) :: .int .i64 x.Leaf :: [])
attribute [go_sem] e_api_Use
end Go.Proofs.Ytcbdmoihobdjaaa
