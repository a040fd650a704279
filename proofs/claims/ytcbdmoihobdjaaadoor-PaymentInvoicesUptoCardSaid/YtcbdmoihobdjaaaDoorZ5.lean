/- Texts of this proof, one after the other: M, HS, H2, H3. -/
import Derived.Test.YtcbdmoihobdjaaaDoorZ4
import Derived.KernelRfl
set_option linter.unusedVariables false
set_option linter.unusedSimpArgs false
namespace Go.Proofs.YtcbdmoihobdjaaaDoor
open Go.RowKit
def payment_valid (v : S_api_Invoice) : Bool :=
 (if (decide (v.Amount ≥ 1)) then (if (decide (v.Amount ≤ 1099511627776)) then (if (decide (v.Time ≥ 0)) then (if (decide (v.Time ≤ 1099511627776)) then (if (decide (v.Number ≥ 0)) then (decide (v.Number ≤ 1073741824)) else false) else false) else false) else false) else false)
def payment_integer (n_ : Int) : S_api_Item :=
 ({ Kind := 1, N := n_, B := ([] : List Int), L := ([] : List S_api_Item) } : S_api_Item)
def encode_within_1 (x_ : S_api_Item) (c0 : Int) : Bool :=
 (letk (withinM x_ (c0 - 1)) (fun (x2 : Bool) => (!x2)))
def slices_IndexFunc_api_Item_api_Item_at_encode_within_1 (s : (List S_api_Item)) (f__c0 : Int) : Int :=
 (iter (((s.length : Int) - 0).toNat + 1) (fun (ag1 : Int → Int) (p1 : Int) => (if (decide (p1 < (s.length : Int))) then (letk (encode_within_1 (gt s p1) f__c0) (fun (x5 : Bool) => (if x5 then p1 else (ag1 (p1 + 1))))) else (-1))) (fun _ => default) 0)
def slices_ContainsFunc_api_Item_api_Item_at_encode_within_1 (s : (List S_api_Item)) (f__c0 : Int) : Bool :=
 (letk (slices_IndexFunc_api_Item_api_Item_at_encode_within_1 s f__c0) (fun (x1 : Int) => (decide (x1 ≥ 0))))
def encode_within (i_ : S_api_Item) (depth : Int) : Bool :=
 (if (i_.Kind == 1) then (if ((i_.B.length : Int) == 0) then ((i_.L.length : Int) == 0) else false) else (if (i_.Kind == 2) then (if (i_.N == 0) then ((i_.L.length : Int) == 0) else false) else (if (i_.Kind == 3) then (if (i_.N == 0) then (if ((i_.B.length : Int) == 0) then (if (decide (depth > 0)) then (if (decide ((i_.L.length : Int) ≤ 1000)) then (letk (slices_ContainsFunc_api_Item_api_Item_at_encode_within_1 (i_.L) depth) (fun (x23 : Bool) => (!x23))) else false) else false) else false) else false) else false)))
def encode_Valid (i_ : S_api_Item) : Bool :=
 (letk (withinM i_ 8) (fun (x1 : Bool) => x1))
def encode_number (out : (List Int)) (n_ : Int) (size : Int) : (List Int) :=
 (iter (((size - 1) + 1).toNat + 1) (fun (ag2 : (Int × List Int) → (List Int)) (p2 : Int × List Int) => (if (decide (p2.1 ≥ 0)) then (ag2 ((p2.1 - 1), (p2.2 ++ ([(convI .u8 (shrI .u64 n_ (8 * p2.1)))] : List Int)))) else p2.2)) (fun _ => default) ((size - 1), out))
def encode_write (out : (List Int)) (i_ : S_api_Item) : (List Int) :=
 (if (decide ((out.length : Int) > 16384)) then out else (if (i_.Kind == 1) then (letk (encode_number (out ++ ([(convI .u8 i_.Kind)] : List Int)) (convI .u64 i_.N) 8) (fun (x6 : (List Int)) => x6)) else (if (i_.Kind == 2) then (letk (encode_number (out ++ ([(convI .u8 i_.Kind)] : List Int)) (convI .u64 (i_.B.length : Int)) 4) (fun (x13 : (List Int)) => (x13 ++ i_.B))) else (letk (encode_number (out ++ ([(convI .u8 i_.Kind)] : List Int)) (convI .u64 (i_.L.length : Int)) 4) (fun (x17 : (List Int)) => (iter (((i_.L.length : Int) - 0).toNat + 1) (fun (ag21 : (Int × List Int) → (List Int)) (p21 : Int × List Int) => (if (decide (p21.1 < (i_.L.length : Int))) then (letk (writeM (p21.2) (gt i_.L p21.1)) (fun (x25 : (List Int)) => (ag21 ((p21.1 + 1), x25)))) else p21.2)) (fun _ => default) (0, x17)))))))
def encode_Encode (i_ : S_api_Item) : ((List Int) × Int) :=
 (letk (encode_Valid i_) (fun (x1 : Bool) => (if (!x1) then (([] : List Int), 1) else (letk (writeM ([] : List Int) i_) (fun (x7 : (List Int)) => (if (decide ((x7.length : Int) > 16384)) then (([] : List Int), 5) else (x7, 0)))))))
def payment_Invoice (v : S_api_Invoice) : ((List Int) × Int) :=
 (letk (payment_valid v) (fun (x1 : Bool) => (if (!x1) then (([] : List Int), 1) else (letk (payment_integer (v.Amount)) (fun (x7 : S_api_Item) => (letk (payment_integer (v.Time)) (fun (x10 : S_api_Item) => (letk (payment_integer (v.Number)) (fun (x13 : S_api_Item) => (letk (encode_Encode ({ Kind := 3, N := 0, B := ([] : List Int), L := ([({ Kind := 2, N := 0, B := (arrN 32 v.Payee), L := ([] : List S_api_Item) } : S_api_Item), x7, x10, x13] : List S_api_Item) } : S_api_Item)) (fun (x16 : ((List Int) × Int)) => (x16.1, x16.2))))))))))))
def encode_reader_fail (r_ : S_encode_reader) (e_ : Int) : S_encode_reader :=
 (if (r_.e == 0) then ({ b := r_.b, e := e_ } : S_encode_reader) else r_)
def encode_reader_take (r_ : S_encode_reader) (n_ : Int) : ((List Int) × S_encode_reader) :=
 (if (r_.e != 0) then (letk (encode_reader_fail r_ 4) (fun (x10 : S_encode_reader) => (([] : List Int), x10))) else (if (decide (n_ > (r_.b.length : Int))) then (letk (encode_reader_fail r_ 4) (fun (x5 : S_encode_reader) => (([] : List Int), x5))) else ((sl r_.b 0 n_), ({ b := (sl r_.b n_ (r_.b.length : Int)), e := r_.e } : S_encode_reader))))
def encode_reader_number (r_ : S_encode_reader) (size : Int) : (Int × S_encode_reader) :=
 (letk (encode_reader_take r_ size) (fun (x1 : ((List Int) × S_encode_reader)) => (iter (((x1.1.length : Int) - 0).toNat + 1) (fun (ag4 : (Int × Int) → (Int × S_encode_reader)) (p4 : Int × Int) => (if (decide (p4.2 < (x1.1.length : Int))) then (ag4 ((orI .u64 (shlI .u64 p4.1 8) (convI .u64 (gt x1.1 p4.2))), (p4.2 + 1))) else (p4.1, x1.2))) (fun _ => default) (0, 0))))
def bytes_Clone (s : List Int) : List Int := s
def encode_reader_item (r_ : S_encode_reader) (depth : Int) : (S_api_Item × S_encode_reader) :=
 (letk (encode_reader_number r_ 1) (fun (x1 : (Int × S_encode_reader)) => (letj (fun (p6 : Unit) => (if ((convI .i64 x1.1) == 1) then (letk (encode_reader_number (x1.2) 8) (fun (x9 : (Int × S_encode_reader)) => (({ Kind := (convI .i64 x1.1), N := (convI .i64 x9.1), B := ([] : List Int), L := ([] : List S_api_Item) } : S_api_Item), x9.2))) else (if ((convI .i64 x1.1) == 2) then (letk (encode_reader_number (x1.2) 4) (fun (x17 : (Int × S_encode_reader)) => (letk (encode_reader_take (x17.2) (convI .i64 x17.1)) (fun (x22 : ((List Int) × S_encode_reader)) => (letk (bytes_Clone (x22.1)) (fun (x26 : (List Int)) => (({ Kind := (convI .i64 x1.1), N := 0, B := x26, L := ([] : List S_api_Item) } : S_api_Item), x22.2))))))) else (if ((convI .i64 x1.1) == 3) then (letk (encode_reader_number (x1.2) 4) (fun (x33 : (Int × S_encode_reader)) => (letj (fun (p38 : S_encode_reader) => (iter (((convI .i64 x33.1) - 0).toNat + 1) (fun (ag39 : (Int × S_encode_reader × List S_api_Item) → (S_api_Item × S_encode_reader)) (p39 : Int × S_encode_reader × List S_api_Item) => (if (decide (p39.1 < (convI .i64 x33.1))) then (if (p39.2.1.e != 0) then (({ Kind := (convI .i64 x1.1), N := 0, B := ([] : List Int), L := p39.2.2 } : S_api_Item), p39.2.1) else (letk (itemM (p39.2.1) (depth - 1)) (fun (x46 : (S_api_Item × S_encode_reader)) => (ag39 ((p39.1 + 1), x46.2, (p39.2.2 ++ ([x46.1] : List S_api_Item))))))) else (({ Kind := (convI .i64 x1.1), N := 0, B := ([] : List Int), L := p39.2.2 } : S_api_Item), p39.2.1))) (fun _ => default) (0, p38, ([] : List S_api_Item)))) (fun j38 => (if (decide ((convI .i64 x33.1) > 1000)) then (letk (encode_reader_fail (x33.2) 3) (fun (x52 : S_encode_reader) => (j38 x52))) else (j38 x33.2)))))) else (({ Kind := (convI .i64 x1.1), N := 0, B := ([] : List Int), L := ([] : List S_api_Item) } : S_api_Item), x1.2))))) (fun j6 => (if (decide ((convI .i64 x1.1) < 1)) then (letk (encode_reader_fail (x1.2) 3) (fun (x81 : S_encode_reader) => (z_api_Item, x81))) else (if (decide ((convI .i64 x1.1) > 3)) then (letk (encode_reader_fail (x1.2) 3) (fun (x75 : S_encode_reader) => (z_api_Item, x75))) else (if ((convI .i64 x1.1) == 3) then (if (depth == 0) then (letk (encode_reader_fail (x1.2) 3) (fun (x67 : S_encode_reader) => (z_api_Item, x67))) else (j6 ())) else (j6 ()))))))))
def encode_Decode (b : (List Int)) : (S_api_Item × Int) :=
 (if (decide ((b.length : Int) > 16384)) then (z_api_Item, 5) else (letk (itemM ({ b := b, e := 0 } : S_encode_reader) 8) (fun (x4 : (S_api_Item × S_encode_reader)) => (letj (fun (p7 : S_encode_reader) => (if (p7.e != 0) then (z_api_Item, p7.e) else (x4.1, 0))) (fun j7 => (if (decide ((x4.2.b.length : Int) > 0)) then (letk (encode_reader_fail (x4.2) 3) (fun (x13 : S_encode_reader) => (j7 x13))) else (j7 x4.2)))))))
def encode_Numbers (i_ : S_api_Item) : ((List Int) × Int) :=
 (letk (encode_Valid i_) (fun (x1 : Bool) => (if (!x1) then (([] : List Int), 1) else (if (i_.Kind != 3) then (([] : List Int), 3) else (iter (((i_.L.length : Int) - 0).toNat + 1) (fun (ag10 : (Int × List Int) → ((List Int) × Int)) (p10 : Int × List Int) => (if (decide (p10.1 < (i_.L.length : Int))) then (if ((gt i_.L p10.1).Kind != 1) then (([] : List Int), 3) else (ag10 ((p10.1 + 1), (p10.2 ++ ([(gt i_.L p10.1).N] : List Int))))) else (p10.2, 0))) (fun _ => default) (0, ([] : List Int)))))))
def payment_FromInvoice (x_ : (List Int)) : (S_api_Invoice × Int) :=
 (letk (encode_Decode x_) (fun (x1 : (S_api_Item × Int)) => (if (x1.2 != 0) then (z_api_Invoice, 3) else (if (x1.1.Kind != 3) then (z_api_Invoice, 3) else (if ((x1.1.L.length : Int) != 4) then (z_api_Invoice, 3) else (if ((gt x1.1.L 0).Kind != 2) then (z_api_Invoice, 3) else (if (((gt x1.1.L 0).B.length : Int) != 32) then (z_api_Invoice, 3) else (letk (encode_Numbers ({ Kind := 3, N := 0, B := ([] : List Int), L := (sl x1.1.L 1 (x1.1.L.length : Int)) } : S_api_Item)) (fun (x16 : ((List Int) × Int)) => (if (x16.2 != 0) then (z_api_Invoice, 3) else (letk (payment_valid ({ Payee := (arrN 32 (gt x1.1.L 0).B), Amount := (gt x16.1 0), Time := (gt x16.1 1), Number := (gt x16.1 2) } : S_api_Invoice)) (fun (x27 : Bool) => (if (!x27) then (z_api_Invoice, 3) else (({ Payee := (arrN 32 (gt x1.1.L 0).B), Amount := (gt x16.1 0), Time := (gt x16.1 1), Number := (gt x16.1 2) } : S_api_Invoice), 0))))))))))))))
def specielaw38_awake  : Bool :=
 (letk (payment_Invoice ({ Payee := [0, 0, 0, 0, 0, 0, 0, 0, 0, 0, 0, 0, 0, 0, 0, 0, 0, 0, 0, 0, 0, 0, 0, 0, 0, 0, 0, 0, 0, 0, 0, 0], Amount := 5, Time := 7, Number := 9 } : S_api_Invoice)) (fun (x1 : ((List Int) × Int)) => (letk (payment_FromInvoice (x1.1)) (fun (x4 : (S_api_Invoice × Int)) => (if (x1.2 == 0) then (if ((x1.1.length : Int) == 69) then (if (x4.2 == 0) then (q_api_Invoice (x4.1) ({ Payee := [0, 0, 0, 0, 0, 0, 0, 0, 0, 0, 0, 0, 0, 0, 0, 0, 0, 0, 0, 0, 0, 0, 0, 0, 0, 0, 0, 0, 0, 0, 0, 0], Amount := 5, Time := 7, Number := 9 } : S_api_Invoice)) else false) else false) else false)))))
def payment_Context (v : S_api_Invoice) : (S_api_Context × Int) :=
 (letk (payment_valid v) (fun (x1 : Bool) => (if (!x1) then (z_api_Context, 1) else (({ Payee := v.Payee, Time := v.Time, Number := v.Number } : S_api_Context), 0))))
def digest_count (n_ : Int) : (List Int) :=
 (iter (((8 : Int) - 0).toNat + 1) (fun (ag1 : (Int × List Int) → (List Int)) (p1 : Int × List Int) => (if (decide (p1.1 < (8 : Int))) then (ag1 ((p1.1 + 1), (st p1.2 p1.1 (convI .u8 (shrI .u64 n_ (56 - (8 * p1.1))))))) else p1.2)) (fun _ => default) (0, ([(0 : Int), (0 : Int), (0 : Int), (0 : Int), (0 : Int), (0 : Int), (0 : Int), (0 : Int)] : List Int)))
def math_bits_RotateLeft32 (x_ : Int) (k_ : Int) : Int :=
 (orI .u32 (shlI .u32 x_ (andI .u64 (convI .u64 k_) 31)) (shrI .u32 x_ (subI .u64 32 (andI .u64 (convI .u64 k_) 31))))
def digest_right (x_ : Int) (n_ : Int) : Int :=
 (letk (math_bits_RotateLeft32 x_ (negI .i64 n_)) (fun (x1 : Int) => x1))
def digest_schedule (block : (List Int)) : (List Int) :=
 (iter (((16 : Int) - 0).toNat + 1) (fun (ag1 : (Int × (List Int)) → (List Int)) (p1 : Int × (List Int)) => (if (decide (p1.1 < 16)) then (iter ((((sl block (4 * p1.1) ((4 * p1.1) + 4)).length : Int) - 0).toNat + 1) (fun (ag7 : (Int × (List Int)) → (List Int)) (p7 : Int × (List Int)) => (if (decide (p7.1 < ((sl block (4 * p1.1) ((4 * p1.1) + 4)).length : Int))) then (ag7 ((p7.1 + 1), (arrN 64 (st (arrN 64 p7.2) p1.1 (orI .u32 (shlI .u32 (gt p7.2 p1.1) 8) (convI .u32 (gt (sl block (4 * p1.1) ((4 * p1.1) + 4)) p7.1))))))) else (ag1 ((p1.1 + 1), p7.2)))) (fun _ => default) (0, p1.2)) else (iter (((64 : Int) - 16).toNat + 1) (fun (ag17 : (Int × (List Int)) → (List Int)) (p17 : Int × (List Int)) => (if (decide (p17.1 < 64)) then (letk (digest_right (gt p17.2 (p17.1 - 15)) 7) (fun (x26 : Int) => (letk (digest_right (gt p17.2 (p17.1 - 15)) 18) (fun (x29 : Int) => (letk (digest_right (gt p17.2 (p17.1 - 2)) 17) (fun (x32 : Int) => (letk (digest_right (gt p17.2 (p17.1 - 2)) 19) (fun (x35 : Int) => (ag17 ((p17.1 + 1), (arrN 64 (st (arrN 64 p17.2) p17.1 (addI .u32 (addI .u32 (addI .u32 (gt p17.2 (p17.1 - 16)) (xorI .u32 (xorI .u32 x26 x29) (shrI .u32 (gt p17.2 (p17.1 - 15)) 3))) (gt p17.2 (p17.1 - 7))) (xorI .u32 (xorI .u32 x32 x35) (shrI .u32 (gt p17.2 (p17.1 - 2)) 10))))))))))))))) else p17.2)) (fun _ => default) (16, p1.2)))) (fun _ => default) (0, [0, 0, 0, 0, 0, 0, 0, 0, 0, 0, 0, 0, 0, 0, 0, 0, 0, 0, 0, 0, 0, 0, 0, 0, 0, 0, 0, 0, 0, 0, 0, 0, 0, 0, 0, 0, 0, 0, 0, 0, 0, 0, 0, 0, 0, 0, 0, 0, 0, 0, 0, 0, 0, 0, 0, 0, 0, 0, 0, 0, 0, 0, 0, 0]))
def digest_mix (state : (List Int)) (block : (List Int)) : (List Int) :=
 (letk (digest_schedule block) (fun (x1 : (List Int)) => (iter (((64 : Int) - 0).toNat + 1) (fun (ag4 : (Int × Int × Int × Int × Int × Int × Int × Int × Int) → (List Int)) (p4 : Int × Int × Int × Int × Int × Int × Int × Int × Int) => (if (decide (p4.2.2.2.2.2.2.2.2 < 64)) then (letk (digest_right (p4.2.2.2.2.1) 6) (fun (x7 : Int) => (letk (digest_right (p4.2.2.2.2.1) 11) (fun (x9 : Int) => (letk (digest_right (p4.2.2.2.2.1) 25) (fun (x11 : Int) => (letk (digest_right (p4.1) 2) (fun (x16 : Int) => (letk (digest_right (p4.1) 13) (fun (x19 : Int) => (letk (digest_right (p4.1) 22) (fun (x22 : Int) => (ag4 ((addI .u32 (addI .u32 (addI .u32 (addI .u32 (addI .u32 p4.2.2.2.2.2.2.2.1 (xorI .u32 (xorI .u32 x7 x9) x11)) (xorI .u32 (andI .u32 p4.2.2.2.2.1 p4.2.2.2.2.2.1) (andI .u32 (notI .u32 p4.2.2.2.2.1) p4.2.2.2.2.2.2.1))) (gt kg_1 p4.2.2.2.2.2.2.2.2)) (gt x1 p4.2.2.2.2.2.2.2.2)) (addI .u32 (xorI .u32 (xorI .u32 x16 x19) x22) (xorI .u32 (xorI .u32 (andI .u32 p4.1 p4.2.1) (andI .u32 p4.1 p4.2.2.1)) (andI .u32 p4.2.1 p4.2.2.1)))), p4.1, p4.2.1, p4.2.2.1, (addI .u32 p4.2.2.2.1 (addI .u32 (addI .u32 (addI .u32 (addI .u32 p4.2.2.2.2.2.2.2.1 (xorI .u32 (xorI .u32 x7 x9) x11)) (xorI .u32 (andI .u32 p4.2.2.2.2.1 p4.2.2.2.2.2.1) (andI .u32 (notI .u32 p4.2.2.2.2.1) p4.2.2.2.2.2.2.1))) (gt kg_1 p4.2.2.2.2.2.2.2.2)) (gt x1 p4.2.2.2.2.2.2.2.2))), p4.2.2.2.2.1, p4.2.2.2.2.2.1, p4.2.2.2.2.2.2.1, (p4.2.2.2.2.2.2.2.2 + 1))))))))))))))) else (iter (((8 : Int) - 0).toNat + 1) (fun (ag26 : (Int × (List Int)) → (List Int)) (p26 : Int × (List Int)) => (if (decide (p26.1 < 8)) then (ag26 ((p26.1 + 1), (arrN 8 (st (arrN 8 p26.2) p26.1 (addI .u32 (gt p26.2 p26.1) (gt ([p4.1, p4.2.1, p4.2.2.1, p4.2.2.2.1, p4.2.2.2.2.1, p4.2.2.2.2.2.1, p4.2.2.2.2.2.2.1, p4.2.2.2.2.2.2.2.1] : List Int) p26.1)))))) else p26.2)) (fun _ => default) (0, state)))) (fun _ => default) ((gt state 0), (gt state 1), (gt state 2), (gt state 3), (gt state 4), (gt state 5), (gt state 6), (gt state 7), 0))))
def digest_Sum (b : (List Int)) : (List Int) :=
 (letk (bytes_Clone b) (fun (x1 : (List Int)) => (iter (((56 - (((x1 ++ ([128] : List Int))).length : Int)) % 64).toNat + 1) (fun (ag5 : (List Int) → (List Int)) (p5 : List Int) => (if ((remI .i64 (p5.length : Int) 64) != 56) then (ag5 (p5 ++ ([0] : List Int))) else (letk (digest_count (mulI .u64 8 (convI .u64 (b.length : Int)))) (fun (x9 : (List Int)) => (iter (((p5 ++ x9)).length + 1) (fun (ag13 : (List Int × (List Int)) → (List Int)) (p13 : List Int × (List Int)) => (if (decide ((p13.1.length : Int) > 0)) then (letk (digest_mix (p13.2) (sl p13.1 0 64)) (fun (x16 : (List Int)) => (ag13 ((sl p13.1 64 (p13.1.length : Int)), x16)))) else (iter (((8 : Int) - 0).toNat + 1) (fun (ag20 : (Int × (List Int)) → (List Int)) (p20 : Int × (List Int)) => (if (decide (p20.1 < 8)) then (iter (((4 : Int) - 0).toNat + 1) (fun (ag24 : (Int × (List Int)) → (List Int)) (p24 : Int × (List Int)) => (if (decide (p24.1 < 4)) then (ag24 ((p24.1 + 1), (arrN 32 (st (arrN 32 p24.2) ((4 * p20.1) + p24.1) (convI .u8 (shrI .u32 (gt p13.2 p20.1) (24 - (8 * p24.1)))))))) else (ag20 ((p20.1 + 1), p24.2)))) (fun _ => default) (0, p20.2)) else p20.2)) (fun _ => default) (0, [0, 0, 0, 0, 0, 0, 0, 0, 0, 0, 0, 0, 0, 0, 0, 0, 0, 0, 0, 0, 0, 0, 0, 0, 0, 0, 0, 0, 0, 0, 0, 0])))) (fun _ => default) ((p5 ++ x9), [1779033703, 3144134277, 1013904242, 2773480762, 1359893119, 2600822924, 528734635, 1541459225])))))) (fun _ => default) (x1 ++ ([128] : List Int)))))
def digest_Tagged (tag : (List UInt8)) (b : (List Int)) : ((List Int) × Int) :=
 (if (decide ((tag.length : Int) < 1)) then ([0, 0, 0, 0, 0, 0, 0, 0, 0, 0, 0, 0, 0, 0, 0, 0, 0, 0, 0, 0, 0, 0, 0, 0, 0, 0, 0, 0, 0, 0, 0, 0], 2) else (if (decide ((tag.length : Int) > 100)) then ([0, 0, 0, 0, 0, 0, 0, 0, 0, 0, 0, 0, 0, 0, 0, 0, 0, 0, 0, 0, 0, 0, 0, 0, 0, 0, 0, 0, 0, 0, 0, 0], 2) else (letk (digest_Sum (nat8 tag)) (fun (x6 : (List Int)) => (letk (bytes_Clone (arrN 32 x6)) (fun (x9 : (List Int)) => (letk (digest_Sum ((x9 ++ (arrN 32 x6)) ++ b)) (fun (x12 : (List Int)) => (x12, 0)))))))))
def payment_Label (v : S_api_Invoice) : ((List UInt8) × Int) :=
 (letk (payment_Invoice v) (fun (x1 : ((List Int) × Int)) => (if (x1.2 != 0) then ([], x1.2) else (letk (digest_Tagged ([115, 112, 101, 99, 105, 101, 47, 105, 110, 118, 111, 105, 99, 101]) (x1.1)) (fun (x8 : ((List Int) × Int)) => (if (x8.2 != 0) then ([], x8.2) else (letk (digest_Hex (x8.1)) (fun (x14 : (List UInt8)) => (([112, 97, 121, 58] ++ ((x14.drop (0 : Int).toNat).take ((16 : Int).toNat - (0 : Int).toNat))), 0)))))))))
def specieref07_value (b : (List Int)) : Int :=
 (iter (((b.length : Int) - 0).toNat + 1) (fun (ag1 : (Int × Int) → Int) (p1 : Int × Int) => (if (decide (p1.2 < (b.length : Int))) then (ag1 ((addI .u64 (mulI .u64 256 p1.1) (convI .u64 (gt b p1.2))), (p1.2 + 1))) else p1.1)) (fun _ => default) (0, 0))
def specieref07_read (b : (List Int)) (within : Int) : (S_api_Item × (List Int) × Int) :=
 (if ((b.length : Int) == 0) then (z_api_Item, ([] : List Int), 4) else (letj (fun (p5 : Unit) => (letk (specieref07_value (sl (sl b 1 (b.length : Int)) 0 4)) (fun (x6 : Int) => (if ((convI .i64 (gt b 0)) == 2) then (if (decide (((sl (sl b 1 (b.length : Int)) 4 ((sl b 1 (b.length : Int)).length : Int)).length : Int) < (convI .i64 x6))) then (z_api_Item, ([] : List Int), 4) else (({ Kind := (convI .i64 (gt b 0)), N := 0, B := (([] : List Int) ++ (sl (sl (sl b 1 (b.length : Int)) 4 ((sl b 1 (b.length : Int)).length : Int)) 0 (convI .i64 x6))), L := ([] : List S_api_Item) } : S_api_Item), (sl (sl (sl b 1 (b.length : Int)) 4 ((sl b 1 (b.length : Int)).length : Int)) (convI .i64 x6) ((sl (sl b 1 (b.length : Int)) 4 ((sl b 1 (b.length : Int)).length : Int)).length : Int)), 0)) else (if (decide ((convI .i64 x6) > 1000)) then (z_api_Item, ([] : List Int), 3) else (iter (((convI .i64 x6) - 0).toNat + 1) (fun (ag19 : (List Int × Int × S_api_Item × List S_api_Item) → (S_api_Item × (List Int) × Int)) (p19 : List Int × Int × S_api_Item × List S_api_Item) => (if (decide (p19.2.1 < (convI .i64 x6))) then (letk (rreadM (p19.1) (within + 1)) (fun (x23 : (S_api_Item × (List Int) × Int)) => (if (x23.2.2 != 0) then (z_api_Item, ([] : List Int), x23.2.2) else (ag19 (x23.2.1, (p19.2.1 + 1), p19.2.2.1, (p19.2.2.2 ++ ([x23.1] : List S_api_Item))))))) else (({ Kind := (convI .i64 (gt b 0)), N := 0, B := ([] : List Int), L := p19.2.2.2 } : S_api_Item), p19.1, 0))) (fun _ => default) ((sl (sl b 1 (b.length : Int)) 4 ((sl b 1 (b.length : Int)).length : Int)), 0, z_api_Item, ([] : List S_api_Item)))))))) (fun j5 => (if (decide ((convI .i64 (gt b 0)) < 1)) then (z_api_Item, ([] : List Int), 3) else (if (decide ((convI .i64 (gt b 0)) > 3)) then (z_api_Item, ([] : List Int), 3) else (if ((convI .i64 (gt b 0)) == 3) then (if (within == 8) then (z_api_Item, ([] : List Int), 3) else (if ((convI .i64 (gt b 0)) == 1) then (if (decide (((sl b 1 (b.length : Int)).length : Int) < 8)) then (z_api_Item, ([] : List Int), 4) else (if (decide (((sl b 1 (b.length : Int)).length : Int) < 4)) then (z_api_Item, ([] : List Int), 4) else (if ((convI .i64 (gt b 0)) == 1) then (letk (specieref07_value (sl (sl b 1 (b.length : Int)) 0 8)) (fun (x49 : Int) => (({ Kind := (convI .i64 (gt b 0)), N := (convI .i64 x49), B := ([] : List Int), L := ([] : List S_api_Item) } : S_api_Item), (sl (sl b 1 (b.length : Int)) 8 ((sl b 1 (b.length : Int)).length : Int)), 0))) else (j5 ())))) else (if (decide (((sl b 1 (b.length : Int)).length : Int) < 4)) then (z_api_Item, ([] : List Int), 4) else (if ((convI .i64 (gt b 0)) == 1) then (letk (specieref07_value (sl (sl b 1 (b.length : Int)) 0 8)) (fun (x60 : Int) => (({ Kind := (convI .i64 (gt b 0)), N := (convI .i64 x60), B := ([] : List Int), L := ([] : List S_api_Item) } : S_api_Item), (sl (sl b 1 (b.length : Int)) 8 ((sl b 1 (b.length : Int)).length : Int)), 0))) else (j5 ()))))) else (if ((convI .i64 (gt b 0)) == 1) then (if (decide (((sl b 1 (b.length : Int)).length : Int) < 8)) then (z_api_Item, ([] : List Int), 4) else (if (decide (((sl b 1 (b.length : Int)).length : Int) < 4)) then (z_api_Item, ([] : List Int), 4) else (if ((convI .i64 (gt b 0)) == 1) then (letk (specieref07_value (sl (sl b 1 (b.length : Int)) 0 8)) (fun (x74 : Int) => (({ Kind := (convI .i64 (gt b 0)), N := (convI .i64 x74), B := ([] : List Int), L := ([] : List S_api_Item) } : S_api_Item), (sl (sl b 1 (b.length : Int)) 8 ((sl b 1 (b.length : Int)).length : Int)), 0))) else (j5 ())))) else (if (decide (((sl b 1 (b.length : Int)).length : Int) < 4)) then (z_api_Item, ([] : List Int), 4) else (if ((convI .i64 (gt b 0)) == 1) then (letk (specieref07_value (sl (sl b 1 (b.length : Int)) 0 8)) (fun (x85 : Int) => (({ Kind := (convI .i64 (gt b 0)), N := (convI .i64 x85), B := ([] : List Int), L := ([] : List S_api_Item) } : S_api_Item), (sl (sl b 1 (b.length : Int)) 8 ((sl b 1 (b.length : Int)).length : Int)), 0))) else (j5 ()))))))))))
def specieref07_Decode (b : (List Int)) : (S_api_Item × Int) :=
 (if (decide ((b.length : Int) > 16384)) then (z_api_Item, 5) else (letk (rreadM b 0) (fun (x4 : (S_api_Item × (List Int) × Int)) => (if (x4.2.2 != 0) then (z_api_Item, x4.2.2) else (if (decide ((x4.2.1.length : Int) > 0)) then (z_api_Item, 3) else (x4.1, 0))))))
def specieref31_Hash (i_ : S_api_Item) : ((List Int) × Bool) :=
 (if (i_.Kind != 2) then ([0, 0, 0, 0, 0, 0, 0, 0, 0, 0, 0, 0, 0, 0, 0, 0, 0, 0, 0, 0, 0, 0, 0, 0, 0, 0, 0, 0, 0, 0, 0, 0], false) else (if ((i_.B.length : Int) != 32) then ([0, 0, 0, 0, 0, 0, 0, 0, 0, 0, 0, 0, 0, 0, 0, 0, 0, 0, 0, 0, 0, 0, 0, 0, 0, 0, 0, 0, 0, 0, 0, 0], false) else (iter (((32 : Int) - 0).toNat + 1) (fun (ag6 : (Int × (List Int)) → ((List Int) × Bool)) (p6 : Int × (List Int)) => (if (decide (p6.1 < 32)) then (ag6 ((p6.1 + 1), (arrN 32 (st (arrN 32 p6.2) p6.1 (gt i_.B p6.1))))) else (p6.2, true))) (fun _ => default) (0, [0, 0, 0, 0, 0, 0, 0, 0, 0, 0, 0, 0, 0, 0, 0, 0, 0, 0, 0, 0, 0, 0, 0, 0, 0, 0, 0, 0, 0, 0, 0, 0]))))
def specieref38_list (l : (List S_api_Item)) : S_api_Item :=
 ({ Kind := 3, N := 0, B := ([] : List Int), L := l } : S_api_Item)
def specieref31_Numbers (i_ : S_api_Item) (n_ : Int) : ((List Int) × Bool) :=
 (if (i_.Kind != 3) then (([] : List Int), false) else (if ((i_.L.length : Int) != n_) then (([] : List Int), false) else (iter ((n_ - 0).toNat + 1) (fun (ag6 : (Int × List Int) → ((List Int) × Bool)) (p6 : Int × List Int) => (if (decide (p6.1 < n_)) then (if ((gt i_.L p6.1).Kind != 1) then (([] : List Int), false) else (ag6 ((p6.1 + 1), (p6.2 ++ ([(gt i_.L p6.1).N] : List Int))))) else (p6.2, true))) (fun _ => default) (0, ([] : List Int)))))
def specieref38_in (x_ : Int) (low : Int) (high : Int) : Bool :=
 (if (decide (x_ ≥ low)) then (decide (x_ ≤ high)) else false)
def specieref38_Valid (v : S_api_Invoice) : Bool :=
 (letk (specieref38_in (v.Amount) 1 1099511627776) (fun (x1 : Bool) => (if x1 then (letk (specieref38_in (v.Time) 0 1099511627776) (fun (x5 : Bool) => (if x5 then (letk (specieref38_in (v.Number) 0 1073741824) (fun (x9 : Bool) => x9)) else false))) else false)))
def specieref38_FromInvoice (b : (List Int)) : (S_api_Invoice × Bool) :=
 (letk (specieref07_Decode b) (fun (x1 : (S_api_Item × Int)) => (if (x1.2 != 0) then (z_api_Invoice, false) else (if (x1.1.Kind != 3) then (z_api_Invoice, false) else (if ((x1.1.L.length : Int) != 4) then (z_api_Invoice, false) else (letk (specieref31_Hash (gt x1.1.L 0)) (fun (x12 : ((List Int) × Bool)) => (letk (specieref38_list (sl x1.1.L 1 (x1.1.L.length : Int))) (fun (x15 : S_api_Item) => (letk (specieref31_Numbers x15 3) (fun (x18 : ((List Int) × Bool)) => (if (!x12.2) then (z_api_Invoice, false) else (if (!x18.2) then (z_api_Invoice, false) else (letk (specieref38_Valid ({ Payee := x12.1, Amount := (gt x18.1 0), Time := (gt x18.1 1), Number := (gt x18.1 2) } : S_api_Invoice)) (fun (x30 : Bool) => (if (!x30) then (z_api_Invoice, false) else (({ Payee := x12.1, Amount := (gt x18.1 0), Time := (gt x18.1 1), Number := (gt x18.1 2) } : S_api_Invoice), true)))))))))))))))))
def specieref38_Context (v : S_api_Invoice) : S_api_Context :=
 ({ Payee := v.Payee, Time := v.Time, Number := v.Number } : S_api_Context)
def specieref31_Bytes (h_ : (List Int)) : S_api_Item :=
 (iter (((32 : Int) - 0).toNat + 1) (fun (ag1 : (Int × List Int) → S_api_Item) (p1 : Int × List Int) => (if (decide (p1.1 < 32)) then (ag1 ((p1.1 + 1), (p1.2 ++ ([(gt h_ p1.1)] : List Int)))) else ({ Kind := 2, N := 0, B := p1.2, L := ([] : List S_api_Item) } : S_api_Item))) (fun _ => default) (0, ([] : List Int)))
def specieref38_integer (n_ : Int) : S_api_Item :=
 ({ Kind := 1, N := n_, B := ([] : List Int), L := ([] : List S_api_Item) } : S_api_Item)
def specieref07_number (n_ : Int) (size : Int) : (List Int) :=
 (iter (((size - 1) + 1).toNat + 1) (fun (ag2 : (Int × Int × List Int) → (List Int)) (p2 : Int × Int × List Int) => (if (decide (p2.2.1 ≥ 0)) then (ag2 ((quoI .u64 p2.1 256), (p2.2.1 - 1), (st p2.2.2 p2.2.1 (convI .u8 (remI .u64 p2.1 256))))) else p2.2.2)) (fun _ => default) (n_, (size - 1), (rep size.toNat (0 : Int))))
def specieref07_Encode (i_ : S_api_Item) : (List Int) :=
 (if (i_.Kind == 1) then (letk (specieref07_number (convI .u64 i_.N) 8) (fun (x3 : (List Int)) => (([1] : List Int) ++ x3))) else (if (i_.Kind == 2) then (letk (specieref07_number (convI .u64 (i_.B.length : Int)) 4) (fun (x10 : (List Int)) => ((([2] : List Int) ++ x10) ++ i_.B))) else (letk (specieref07_number (convI .u64 (i_.L.length : Int)) 4) (fun (x14 : (List Int)) => (iter (((i_.L.length : Int) - 0).toNat + 1) (fun (ag18 : (Int × List Int) → (List Int)) (p18 : Int × List Int) => (if (decide (p18.1 < (i_.L.length : Int))) then (letk (encI (gt i_.L p18.1)) (fun (x22 : (List Int)) => (ag18 ((p18.1 + 1), (p18.2 ++ x22))))) else p18.2)) (fun _ => default) (0, (([3] : List Int) ++ x14)))))))
def specieref38_Invoice (v : S_api_Invoice) : (List Int) :=
 (letk (specieref31_Bytes (v.Payee)) (fun (x1 : S_api_Item) => (letk (specieref38_integer (v.Amount)) (fun (x3 : S_api_Item) => (letk (specieref38_integer (v.Time)) (fun (x5 : S_api_Item) => (letk (specieref38_integer (v.Number)) (fun (x7 : S_api_Item) => (letk (specieref38_list ([x1, x3, x5, x7] : List S_api_Item)) (fun (x10 : S_api_Item) => (letk (encI x10) (fun (x13 : (List Int)) => x13))))))))))))
def specieref06_constants  : (List Int) :=
 ([1116352408, 1899447441, 3049323471, 3921009573, 961987163, 1508970993, 2453635748, 2870763221, 3624381080, 310598401, 607225278, 1426881987, 1925078388, 2162078206, 2614888103, 3248222580, 3835390401, 4022224774, 264347078, 604807628, 770255983, 1249150122, 1555081692, 1996064986, 2554220882, 2821834349, 2952996808, 3210313671, 3336571891, 3584528711, 113926993, 338241895, 666307205, 773529912, 1294757372, 1396182291, 1695183700, 1986661051, 2177026350, 2456956037, 2730485921, 2820302411, 3259730800, 3345764771, 3516065817, 3600352804, 4094571909, 275423344, 430227734, 506948616, 659060556, 883997877, 958139571, 1322822218, 1537002063, 1747873779, 1955562222, 2024104815, 2227730452, 2361852424, 2428436474, 2756734187, 3204031479, 3329325298] : List Int)
def specieref06_bytes (n_ : Int) : (List Int) :=
 (iter (((7 + 1) : Int).toNat + 1) (fun (ag1 : (Int × List Int) → (List Int)) (p1 : Int × List Int) => (if (decide (p1.1 ≥ 0)) then (ag1 ((p1.1 - 1), (p1.2 ++ ([(convI .u8 (shrI .i64 n_ (8 * p1.1)))] : List Int)))) else p1.2)) (fun _ => default) (7, ([] : List Int)))
def specieref06_padded (b : (List Int)) : (List Int) :=
 (iter (((56 - ((((([] : List Int) ++ b) ++ ([128] : List Int))).length : Int)) % 64).toNat + 1) (fun (ag1 : (List Int) → (List Int)) (p1 : List Int) => (if ((remI .i64 (p1.length : Int) 64) != 56) then (ag1 (p1 ++ ([0] : List Int))) else (letk (specieref06_bytes (mulI .i64 8 (b.length : Int))) (fun (x5 : (List Int)) => (p1 ++ x5))))) (fun _ => default) ((([] : List Int) ++ b) ++ ([128] : List Int)))
def specieref06_right (x_ : Int) (n_ : Int) : Int :=
 (orI .u32 (shrI .u32 x_ n_) (shlI .u32 x_ (32 - n_)))
def specieref06_words (b : (List Int)) : (List Int) :=
 (iter (((16 : Int) - 0).toNat + 1) (fun (ag1 : (Int × List Int) → (List Int)) (p1 : Int × List Int) => (if (decide (p1.1 < 16)) then (iter (((4 : Int) - 0).toNat + 1) (fun (ag4 : (Int × Int) → (List Int)) (p4 : Int × Int) => (if (decide (p4.2 < 4)) then (ag4 ((addI .u32 (mulI .u32 p4.1 256) (convI .u32 (gt b ((4 * p1.1) + p4.2)))), (p4.2 + 1))) else (ag1 ((p1.1 + 1), (p1.2 ++ ([p4.1] : List Int)))))) (fun _ => default) (0, 0)) else (iter (((64 : Int) - 16).toNat + 1) (fun (ag12 : (Int × List Int) → (List Int)) (p12 : Int × List Int) => (if (decide (p12.1 < 64)) then (letk (specieref06_right (gt p12.2 (p12.1 - 15)) 7) (fun (x19 : Int) => (letk (specieref06_right (gt p12.2 (p12.1 - 15)) 18) (fun (x22 : Int) => (letk (specieref06_right (gt p12.2 (p12.1 - 2)) 17) (fun (x25 : Int) => (letk (specieref06_right (gt p12.2 (p12.1 - 2)) 19) (fun (x28 : Int) => (ag12 ((p12.1 + 1), (p12.2 ++ ([(addI .u32 (addI .u32 (addI .u32 (gt p12.2 (p12.1 - 16)) (xorI .u32 (xorI .u32 x19 x22) (shrI .u32 (gt p12.2 (p12.1 - 15)) 3))) (gt p12.2 (p12.1 - 7))) (xorI .u32 (xorI .u32 x25 x28) (shrI .u32 (gt p12.2 (p12.1 - 2)) 10)))] : List Int)))))))))))) else p12.2)) (fun _ => default) (16, p1.2)))) (fun _ => default) (0, ([] : List Int)))
def specieref06_Sum (b : (List Int)) : (List Int) :=
 (letk (specieref06_constants) (fun (x1 : (List Int)) => (letk (specieref06_padded b) (fun (x5 : (List Int)) => (iter (((x5.length : Int) - 0).toNat + 1) (fun (ag9 : (Int × List Int) → (List Int)) (p9 : Int × List Int) => (if (decide (p9.1 < (x5.length : Int))) then (letk (specieref06_words (sl x5 p9.1 (p9.1 + 64))) (fun (x13 : (List Int)) => (iter (((64 : Int) - 0).toNat + 1) (fun (ag17 : (Int × List Int) → (List Int)) (p17 : Int × List Int) => (if (decide (p17.1 < 64)) then (letk (specieref06_right (gt p17.2 4) 6) (fun (x22 : Int) => (letk (specieref06_right (gt p17.2 4) 11) (fun (x24 : Int) => (letk (specieref06_right (gt p17.2 4) 25) (fun (x26 : Int) => (letk (specieref06_right (gt p17.2 0) 2) (fun (x33 : Int) => (letk (specieref06_right (gt p17.2 0) 13) (fun (x35 : Int) => (letk (specieref06_right (gt p17.2 0) 22) (fun (x37 : Int) => (ag17 ((p17.1 + 1), ([(addI .u32 (addI .u32 (addI .u32 (addI .u32 (addI .u32 (gt p17.2 7) (xorI .u32 (xorI .u32 x22 x24) x26)) (xorI .u32 (andI .u32 (gt p17.2 4) (gt p17.2 5)) (andI .u32 (notI .u32 (gt p17.2 4)) (gt p17.2 6)))) (gt x1 p17.1)) (gt x13 p17.1)) (addI .u32 (xorI .u32 (xorI .u32 x33 x35) x37) (xorI .u32 (xorI .u32 (andI .u32 (gt p17.2 0) (gt p17.2 1)) (andI .u32 (gt p17.2 0) (gt p17.2 2))) (andI .u32 (gt p17.2 1) (gt p17.2 2))))), (gt p17.2 0), (gt p17.2 1), (gt p17.2 2), (addI .u32 (gt p17.2 3) (addI .u32 (addI .u32 (addI .u32 (addI .u32 (gt p17.2 7) (xorI .u32 (xorI .u32 x22 x24) x26)) (xorI .u32 (andI .u32 (gt p17.2 4) (gt p17.2 5)) (andI .u32 (notI .u32 (gt p17.2 4)) (gt p17.2 6)))) (gt x1 p17.1)) (gt x13 p17.1))), (gt p17.2 4), (gt p17.2 5), (gt p17.2 6)] : List Int))))))))))))))) else (iter (((8 : Int) - 0).toNat + 1) (fun (ag43 : (Int × List Int) → (List Int)) (p43 : Int × List Int) => (if (decide (p43.1 < 8)) then (ag43 ((p43.1 + 1), (st p43.2 p43.1 (addI .u32 (gt p43.2 p43.1) (gt p17.2 p43.1))))) else (ag9 ((p9.1 + 64), p43.2)))) (fun _ => default) (0, p9.2)))) (fun _ => default) (0, (([] : List Int) ++ p9.2))))) else (iter (((32 : Int) - 0).toNat + 1) (fun (ag51 : (Int × (List Int)) → (List Int)) (p51 : Int × (List Int)) => (if (decide (p51.1 < 32)) then (ag51 ((p51.1 + 1), (arrN 32 (st (arrN 32 p51.2) p51.1 (convI .u8 (shrI .u32 (gt p9.2 (p51.1 / 4)) (24 - (8 * (p51.1 % 4))))))))) else p51.2)) (fun _ => default) (0, [0, 0, 0, 0, 0, 0, 0, 0, 0, 0, 0, 0, 0, 0, 0, 0, 0, 0, 0, 0, 0, 0, 0, 0, 0, 0, 0, 0, 0, 0, 0, 0])))) (fun _ => default) (0, ([1779033703, 3144134277, 1013904242, 2773480762, 1359893119, 2600822924, 528734635, 1541459225] : List Int)))))))
def specieref06_Join (b : (List Int)) (h_ : (List Int)) : (List Int) :=
 (iter (((32 : Int) - 0).toNat + 1) (fun (ag1 : (Int × List Int) → (List Int)) (p1 : Int × List Int) => (if (decide (p1.1 < 32)) then (ag1 ((p1.1 + 1), (p1.2 ++ ([(gt h_ p1.1)] : List Int)))) else p1.2)) (fun _ => default) (0, (([] : List Int) ++ b)))
def specieref06_Tagged (tag : (List UInt8)) (b : (List Int)) : (List Int) :=
 (letk (specieref06_Sum (nat8 tag)) (fun (x1 : (List Int)) => (letk (specieref06_Join ([] : List Int) x1) (fun (x4 : (List Int)) => (letk (specieref06_Join x4 x1) (fun (x7 : (List Int)) => (letk (specieref06_Sum (x7 ++ b)) (fun (x10 : (List Int)) => x10))))))))
def specieref06_Hex (h_ : (List Int)) : (List UInt8) :=
 (iter (((32 : Int) - 0).toNat + 1) (fun (ag1 : (Int × List Int) → (List UInt8)) (p1 : Int × List Int) => (if (decide (p1.1 < 32)) then (ag1 ((p1.1 + 1), (p1.2 ++ ([((([48, 49, 50, 51, 52, 53, 54, 55, 56, 57, 97, 98, 99, 100, 101, 102] : List UInt8).getD (quoI .u8 (gt h_ p1.1) 16).toNat 0).toNat : Int), ((([48, 49, 50, 51, 52, 53, 54, 55, 56, 57, 97, 98, 99, 100, 101, 102] : List UInt8).getD (remI .u8 (gt h_ p1.1) 16).toNat 0).toNat : Int)] : List Int)))) else ((p1.2).map u8N))) (fun _ => default) (0, ([] : List Int)))
def specieref38_Label (v : S_api_Invoice) : (List UInt8) :=
 (letk (specieref38_Invoice v) (fun (x1 : (List Int)) => (letk (specieref06_Tagged ([115, 112, 101, 99, 105, 101, 47, 105, 110, 118, 111, 105, 99, 101]) x1) (fun (x5 : (List Int)) => (letk (specieref06_Hex x5) (fun (x8 : (List UInt8)) => ([112, 97, 121, 58] ++ ((x8.drop (0 : Int).toNat).take ((16 : Int).toNat - (0 : Int).toNat)))))))))
def bytes_Equal (a_ : (List Int)) (b : (List Int)) : Bool :=
 ((a_.map u8N) == (b.map u8N))
def specielaw38_PaymentInvoices (v : S_api_Invoice) (x_ : (List Int)) : Bool :=
 (letk (specielaw38_awake) (fun (x1 : Bool) => (if (!x1) then false else (if (decide ((x_.length : Int) > 200)) then true else (letk (payment_Context v) (fun (x10 : (S_api_Context × Int)) => (letk (payment_Label v) (fun (x13 : ((List UInt8) × Int)) => (letk (payment_Invoice v) (fun (x16 : ((List Int) × Int)) => (letk (payment_FromInvoice x_) (fun (x19 : (S_api_Invoice × Int)) => (letk (specieref38_FromInvoice x_) (fun (x22 : (S_api_Invoice × Bool)) => (if (x22.2 != (x19.2 == 0)) then false else (if (!(q_api_Invoice (x19.1) (x22.1))) then false else (if (!x22.2) then (if (x19.2 != 3) then false else (letk (specieref38_Valid v) (fun (x34 : Bool) => (if (!x34) then (if (x10.2 == 1) then (if (q_api_Context (x10.1) z_api_Context) then (if (x13.2 == 1) then (if (x13.1 == []) then (if (x16.2 == 1) then ((x16.1.length : Int) == 0) else false) else false) else false) else false) else false) else (letk (payment_FromInvoice (x16.1)) (fun (x55 : (S_api_Invoice × Int)) => (if (x10.2 == 0) then (letk (specieref38_Context v) (fun (x60 : S_api_Context) => (if (q_api_Context (x10.1) x60) then (if (x13.2 == 0) then (letk (specieref38_Label v) (fun (x66 : (List UInt8)) => (if (x13.1 == x66) then (if (x16.2 == 0) then (letk (specieref38_Invoice v) (fun (x72 : (List Int)) => (letk (bytes_Equal (x16.1) x72) (fun (x74 : Bool) => (if x74 then (if (x55.2 == 0) then (q_api_Invoice (x55.1) v) else false) else false))))) else false) else false))) else false) else false))) else false))))))) else (letk (specieref38_Valid v) (fun (x86 : Bool) => (if (!x86) then (if (x10.2 == 1) then (if (q_api_Context (x10.1) z_api_Context) then (if (x13.2 == 1) then (if (x13.1 == []) then (if (x16.2 == 1) then ((x16.1.length : Int) == 0) else false) else false) else false) else false) else false) else (letk (payment_FromInvoice (x16.1)) (fun (x107 : (S_api_Invoice × Int)) => (if (x10.2 == 0) then (letk (specieref38_Context v) (fun (x112 : S_api_Context) => (if (q_api_Context (x10.1) x112) then (if (x13.2 == 0) then (letk (specieref38_Label v) (fun (x118 : (List UInt8)) => (if (x13.1 == x118) then (if (x16.2 == 0) then (letk (specieref38_Invoice v) (fun (x124 : (List Int)) => (letk (bytes_Equal (x16.1) x124) (fun (x126 : Bool) => (if x126 then (if (x107.2 == 0) then (q_api_Invoice (x107.1) v) else false) else false))))) else false) else false))) else false) else false))) else false)))))))))))))))))))))))
end Go.Proofs.YtcbdmoihobdjaaaDoor
namespace Go.Proofs.YtcbdmoihobdjaaaDoor
open Go.RowKit
theorem iter_inv {α R : Type} {F : (α → R) → α → R} {d : α → R} (Inv : α → Prop) (Q : R → Prop) (mu : α → Nat)
  (h : ∀ ag a, Inv a → (∀ a', Inv a' → mu a' < mu a → Q (ag a')) → Q (F ag a)) : ∀ (n : Nat) (a : α), Inv a → mu a < n → Q (iter n F d a)
 | 0, _, _, h1 => absurd h1 (Nat.not_lt_zero _)
 | n + 1, a, hr, h1 => by
  rw [iter]
  exact h _ a hr fun a' hr' hm => iter_inv Inv Q mu h n a' hr' (by omega)
theorem pad_run_aux {R : Type} {E : List Int → R} {F : (List Int → R) → List Int → R} {d : List Int → R} (hF : ∀ ag p, F ag p = if (remI .i64 (p.length : Int) 64 != 56) = true then ag (p ++ [0]) else E p) :
  ∀ (r fuel : Nat) (l : List Int), ((56 - (l.length : Int)) % 64).toNat = r → r < fuel → iter fuel F d l = E (l ++ List.replicate r 0)
 | 0, fuel, l, hr, hf => by
  obtain ⟨f, rfl⟩ : ∃ f, fuel = f + 1 := ⟨fuel - 1, by omega⟩
  rw [iter, hF, remI_nn, if_neg]
  ·simp
  ·have : (l.length : Int) % 64 = 56 := by omega
   simp [this]
 | r + 1, fuel, l, hr, hf => by
  obtain ⟨f, rfl⟩ : ∃ f, fuel = f + 1 := ⟨fuel - 1, by omega⟩
  rw [iter, hF, remI_nn, if_pos]
  ·rw [pad_run_aux hF r f (l ++ [0]) (by simp; omega) (by omega)]
   simp [List.replicate_succ]
  ·have : (l.length : Int) % 64 ≠ 56 := by omega
   simp [this]
theorem pad_run {R : Type} {E : List Int → R} {F : (List Int → R) → List Int → R} {d : List Int → R} {l : List Int} (hF : ∀ ag p, F ag p = if (remI .i64 (p.length : Int) 64 != 56) = true then ag (p ++ [0]) else E p) :
  iter (((56 - (l.length : Int)) % 64).toNat + 1) F d l = E (l ++ List.replicate ((56 - (l.length : Int)) % 64).toNat 0) := pad_run_aux hF _ _ l rfl (Nat.lt_succ_self _)
theorem bytes_list (n : Int) : specieref06_bytes n = [convI .u8 (shrI .i64 n 56), convI .u8 (shrI .i64 n 48), convI .u8 (shrI .i64 n 40), convI .u8 (shrI .i64 n 32), convI .u8 (shrI .i64 n 24), convI .u8 (shrI .i64 n 16), convI .u8 (shrI .i64 n 8), convI .u8 (shrI .i64 n 0)] := by kernel_rfl
def pad (b : List Int) : List Int := ((b ++ [128]) ++ List.replicate ((56 - ((b ++ [(128 : Int)]).length : Int)) % 64).toNat 0)
theorem padded_eq (b : List Int) : specieref06_padded b = pad b ++ specieref06_bytes (mulI .i64 8 (b.length : Int)) := by
 unfold specieref06_padded pad
 refine (pad_run (fun ag p => rfl)).trans ?_
 simp only [letk, List.nil_append]
theorem padded_len (b : List Int) : ((specieref06_padded b).length : Int) % 64 = 0 := by
 rw [padded_eq, bytes_list]
 simp only [pad, List.length_append, List.length_replicate, List.length_cons, List.length_nil]
 omega
theorem words_len (b : List Int) : (specieref06_words b).length = 64 := by
 unfold specieref06_words
 refine iter_inv (fun (a : Int × List Int) => 0 ≤ a.1 ∧ a.1 ≤ 16 ∧ (a.2.length : Int) = a.1) (fun r : List Int => r.length = 64) (fun a => (16 - a.1).toNat) ?_ _ _ ⟨show (0 : Int) ≤ 0 by decide, show (0 : Int) ≤ 16 by decide, rfl⟩ (show ((16 : Int) - 0).toNat < ((16 : Int) - 0).toNat + 1 by decide)
 rintro ag ⟨i, q⟩ ⟨g0, g1, g2⟩ hag
 simp only at g0 g1 g2 hag
 by_cases hi : i < 16
 ·simp only [hi, decide_true, if_true]
  refine iter_inv (fun (a : Int × Int) => True) (fun r : List Int => r.length = 64) (fun a => (4 - a.2).toNat) ?_ _ _ trivial (show ((4 : Int) - 0).toNat < ((4 : Int) - 0).toNat + 1 by decide)
  rintro ag2 ⟨x, k⟩ _ hag2
  simp only at hag2
  by_cases hk : k < 4
  ·simp only [hk, decide_true, if_true]
   exact hag2 _ trivial (by simp only; omega)
  ·simp only [hk, decide_false, Bool.false_eq_true, if_false]
   exact hag _ ⟨by simp only; omega, by simp only; omega, by simp; omega⟩ (by simp only; omega)
 ·simp only [hi, decide_false, Bool.false_eq_true, if_false]
  refine iter_inv (fun (a : Int × List Int) => 16 ≤ a.1 ∧ a.1 ≤ 64 ∧ (a.2.length : Int) = a.1) (fun r : List Int => r.length = 64) (fun a => (64 - a.1).toNat) ?_ _ _ ⟨show (16 : Int) ≤ 16 by decide, show (16 : Int) ≤ 64 by decide, by simp only; omega⟩ (show ((64 : Int) - 16).toNat < ((64 : Int) - 16).toNat + 1 by decide)
  rintro ag2 ⟨t, p⟩ ⟨h0, h1, h2⟩ hag2
  simp only at h0 h1 h2 hag2
  by_cases ht : t < 64
  ·simp only [ht, decide_true, if_true, letk]
   exact hag2 _ ⟨by simp only; omega, by simp only; omega, by simp; omega⟩ (by simp only; omega)
  ·simp only [ht, decide_false, Bool.false_eq_true, if_false]
   omega
theorem join_len (b h : List Int) : (specieref06_Join b h).length = b.length + 32 := by
 unfold specieref06_Join
 refine iter_inv (fun (a : Int × List Int) => 0 ≤ a.1 ∧ a.1 ≤ 32 ∧ (a.2.length : Int) = b.length + a.1) (fun r : List Int => r.length = b.length + 32) (fun a => (32 - a.1).toNat) ?_ _ _ ⟨show (0 : Int) ≤ 0 by decide, show (0 : Int) ≤ 32 by decide, by simp⟩ (show ((32 : Int) - 0).toNat < ((32 : Int) - 0).toNat + 1 by decide)
 rintro ag ⟨i, q⟩ ⟨g0, g1, g2⟩ hag
 simp only at g0 g1 g2 hag
 by_cases hi : i < 32
 ·simp only [hi, decide_true, if_true]
  exact hag _ ⟨by simp only; omega, by simp only; omega, by simp; omega⟩ (by simp only; omega)
 ·simp only [hi, decide_false, Bool.false_eq_true, if_false]
  omega
instance clone_cf {s : List Int} : CF (bytes_Clone s) (fun x => x.length = s.length) := ⟨rfl⟩
theorem count_list (n : Int) : digest_count n = [convI .u8 (shrI .u64 n 56), convI .u8 (shrI .u64 n 48), convI .u8 (shrI .u64 n 40), convI .u8 (shrI .u64 n 32), convI .u8 (shrI .u64 n 24), convI .u8 (shrI .u64 n 16), convI .u8 (shrI .u64 n 8), convI .u8 (shrI .u64 n 0)] := by kernel_rfl
instance count_cf {n : Int} : CF (digest_count n) (fun x => x.length = 8) := ⟨by rw [count_list]; rfl⟩
instance bytes_cf {n : Int} : CF (specieref06_bytes n) (fun x => x.length = 8) := ⟨by rw [bytes_list]; rfl⟩
instance padded_cf {b : List Int} : CF (specieref06_padded b) (fun x => (x.length : Int) % 64 = 0 ∧ (x.length : Int) ≤ b.length + 73) := ⟨padded_len b, by
 rw [padded_eq, bytes_list]
 simp only [pad, List.length_append, List.length_replicate, List.length_cons, List.length_nil]
 omega⟩
instance words_cf {b : List Int} : CF (specieref06_words b) (fun x => x.length = 64) := ⟨words_len b⟩
instance constants_cf : CF specieref06_constants (fun x => x.length = 64) := ⟨rfl⟩
instance join_cf {b h : List Int} : CF (specieref06_Join b h) (fun x => x.length = b.length + 32) := ⟨join_len b h⟩
end Go.Proofs.YtcbdmoihobdjaaaDoor
namespace Go.Proofs.YtcbdmoihobdjaaaDoor
open Go.RowKit
set_option linter.unusedVariables false
set_option linter.unusedSimpArgs false
def spend_hash (i : S_api_Item) : List Int × Bool := if i.Kind == 2 && decide (i.B.length = 32) then (arrN 32 i.B, true) else ([0, 0, 0, 0, 0, 0, 0, 0, 0, 0, 0, 0, 0, 0, 0, 0, 0, 0, 0, 0, 0, 0, 0, 0, 0, 0, 0, 0, 0, 0, 0, 0], false)
theorem spend_hash_eq (i : S_api_Item) : spend_hash i = if i.Kind == 2 && decide (i.B.length = 32) then (arrN 32 i.B, true) else ([0, 0, 0, 0, 0, 0, 0, 0, 0, 0, 0, 0, 0, 0, 0, 0, 0, 0, 0, 0, 0, 0, 0, 0, 0, 0, 0, 0, 0, 0, 0, 0], false) := rfl
theorem encode_within_eqM (i : S_api_Item) (d : Int) : encode_within i d = withinM i d := by
  obtain ⟨k, n, b, l⟩ := i
  have hany : slices_ContainsFunc_api_Item_api_Item_at_encode_within_1 l d = !(withinL l (d - 1)) := by
    have h := iter_any (l := l) (C := fun x => encode_within_1 x d) (d := fun _ => default) (F := fun ag1 p1 => if decide (p1 < (l.length : Int)) then (letk (encode_within_1 (gt l p1) d) (fun x4 => if x4 then p1 else ag1 (p1 + 1))) else -1) (fun ag p => rfl)
    have h2 : slices_ContainsFunc_api_Item_api_Item_at_encode_within_1 l d = l.any (fun x => encode_within_1 x d) := h
    rw [h2, withinL_all, List.not_all_eq_any_not]; rfl
  unfold encode_within
  simp only [letk, withinM, hany, Bool.not_not]
  by_cases e1 : k = 1
  · subst e1; cases b with
    | nil => cases l with
      | nil => simp
      | cons y l => simp; omega
    | cons x b => simp; omega
  by_cases e2 : k = 2
  · subst e2; cases l with
    | nil => simp [Bool.beq_eq_decide_eq]
    | cons y l => simp; omega
  by_cases e3 : k = 3
  · subst e3
    by_cases h0 : n = 0
    · cases b with
      | nil =>
        by_cases h1 : 0 < d
        · by_cases h2 : l.length ≤ 1000
          · have h2' : (l.length : Int) ≤ 1000 := by omega
            simp [h0, h1, h2, h2']
          · have h2' : ¬ (l.length : Int) ≤ 1000 := by omega
            simp [h0, h1, h2, h2']
        · simp [h0, h1]
      | cons x b => simp [h0]; omega
    · simp [h0]
  · simp [e1, e2, e3]
theorem be_cons : ∀ {k : Nat} {n : Int}, be (k + 1) n = (n / 256 ^ k) % 256 :: be k n
  | 0, n => by simp [be]
  | k + 1, n => by
    rw [be, be_cons (k := k), be]
    simp only [List.cons_append, List.cons.injEq, and_true]
    rw [Int.ediv_ediv_of_nonneg (by omega), Int.pow_succ, Int.mul_comm (256 ^ k)]
theorem num_loop {n : Int} {F : (Int × List Int → List Int) → Int × List Int → List Int} {d : Int × List Int → List Int}
    (hF : ∀ ag p, F ag p = if decide (p.1 ≥ 0) = true then ag (p.1 - 1, p.2 ++ [convI .u8 (shrI .u64 n (8 * p.1))]) else p.2) :
    ∀ (k fuel : Nat) (out : List Int), k ≤ 8 → k < fuel → iter fuel F d ((k : Int) - 1, out) = out ++ be k n
  | 0, fuel, out, _, hf => by
    obtain ⟨m, rfl⟩ : ∃ m, fuel = m + 1 := ⟨fuel - 1, by omega⟩
    rw [iter, hF]; simp [be]
  | k + 1, fuel, out, hk, hf => by
    obtain ⟨m, rfl⟩ : ∃ m, fuel = m + 1 := ⟨fuel - 1, by omega⟩
    rw [iter, hF, if_pos (by simp)]
    have e1 : convI .u8 (shrI .u64 n (8 * (((k + 1 : Nat) : Int) - 1))) = (n / 256 ^ k) % 256 := by
      have e2 : (8 * (((k + 1 : Nat) : Int) - 1)).toNat = 8 * k := by omega
      unfold convI shrI
      rw [e2, show min (8 * k) (IntKind.bits .u64) = 8 * k by show min (8 * k) 64 = 8 * k; omega, Int.fdiv_eq_ediv_of_nonneg _ (Int.le_of_lt (Int.pow_pos (by omega))), Int.pow_mul]
      rfl
    simp only
    rw [e1, show ((k + 1 : Nat) : Int) - 1 - 1 = (k : Int) - 1 by omega, num_loop hF k m _ (by omega) (by omega), be_cons]
    simp
theorem number_eq {out : List Int} {n size : Int} (h0 : 0 ≤ size) (h1 : size ≤ 8) : encode_number out n size = out ++ be size.toNat n := by
  unfold encode_number
  have := num_loop (n := n) (d := fun _ => default) (fun ag p => rfl) size.toNat ((size - 1 + 1).toNat + 1) out (by omega) (by omega)
  rw [show ((size.toNat : Nat) : Int) = size by omega] at this
  exact this
theorem num_le {out x : List Int} {n size : Int} (h : x = encode_number out n size) : ¬ (0 ≤ size ∧ size ≤ 8) ∨ (x.length : Int) = out.length + size := by
  by_cases hs : 0 ≤ size ∧ size ≤ 8
  · right; rw [h, number_eq hs.1 hs.2]; simp [be_len]; omega
  · exact .inl hs
theorem be_u64_8 {n : Int} : be 8 (convI .u64 n) = be 8 n := by
  apply be_mod
  have h8 : (256 : Int) ^ 8 = 18446744073709551616 := by decide
  have : convI .u64 n = n % 18446744073709551616 := rfl
  rw [this, h8]; omega
theorem be_u64_4 {n : Int} : be 4 (convI .u64 n) = be 4 n := by
  apply be_mod
  have h8 : (256 : Int) ^ 4 = 4294967296 := by decide
  have : convI .u64 n = n % 18446744073709551616 := rfl
  rw [this, h8]; omega
theorem writeL_fold : ∀ {l : List S_api_Item} {out : List Int}, writeL out l = l.foldl writeM out
  | [], _ => rfl
  | x :: l, out => by simp only [writeL, List.foldl_cons]; exact writeL_fold
theorem encode_write_eqM (out : List Int) (i : S_api_Item) : encode_write out i = writeM out i := by
  obtain ⟨k, n, b, l⟩ := i
  unfold encode_write
  simp only [letk, writeM]
  by_cases hl : out.length > 16384
  · have : (out.length : Int) > 16384 := by omega
    simp [hl, this]
  have hl' : ¬ (out.length : Int) > 16384 := by omega
  by_cases e1 : k = 1
  · subst e1
    have : convI .u8 1 = 1 := rfl
    simp [hl, hl', number_eq, this, be_u64_8]
  by_cases e2 : k = 2
  · subst e2
    have : convI .u8 2 = 2 := rfl
    simp [hl, hl', number_eq, this, be_u64_4]
  have hk : convI .u8 k = k % 256 := rfl
  simp only [hl, hl', e1, e2, decide_false, Bool.false_eq_true, if_false, beq_iff_eq, number_eq (show (0 : Int) ≤ 4 by decide) (show (4 : Int) ≤ 8 by decide), hk, Int.reduceToNat, be_u64_4]
  rw [iter_run (l := l) (fun a s => .inl (writeM s a)) (fun s => s) (fun ag i s => by by_cases h : i < (l.length : Int) <;> simp [h]), foldE_l, writeL_fold]
  simp
theorem fail_eqM (r : S_encode_reader) (e : Int) : encode_reader_fail r e = failR r e := rfl
theorem fail_ne {r x : S_encode_reader} {e : Int} (h : x = encode_reader_fail r e) (he : decide (e = 0) = false) : x.e ≠ 0 := by
  rw [h, fail_eqM]; unfold failR
  have : e ≠ 0 := by simpa using he
  split
  · exact this
  · rename_i h2; simpa using h2
theorem take_eqM (r : S_encode_reader) (n : Int) : encode_reader_take r n = takeR r n := by
  obtain ⟨b, e⟩ := r
  unfold encode_reader_take takeR
  simp only [letk, fail_eqM]
  by_cases h : e = 0
  · by_cases h2 : n > b.length
    · simp [h, h2]
    · simp [h, h2, sl]
      rw [List.take_of_length_le (by simp)]
  · simp [h]
theorem rnumber_eqM (r : S_encode_reader) (n : Int) : encode_reader_number r n = numR r n := by
  unfold encode_reader_number numR
  simp only [letk, take_eqM]
  rw [iter_runR (l := (takeR r n).1) (fun a s => .inl (orI .u64 (shlI .u64 s 8) (convI .u64 a))) (fun s => (s, (takeR r n).2)) (fun ag i s => by by_cases h : i < ((takeR r n).1.length : Int) <;> simp [h]), foldE_l]
  rfl
theorem rnum_fact {r : S_encode_reader} {x : Int × S_encode_reader} {n : Int} (h : x = encode_reader_number r n) (hb : isB r.b) : n > 4 ∨ (0 ≤ convI .i64 x.1 ∧ convI .i64 x.1 ≤ 4294967295) := by
  by_cases hn : n > 4
  · exact .inl hn
  right
  rw [h, rnumber_eqM]
  unfold numR takeR
  split
  · exact ⟨(by decide : (0 : Int) ≤ convI .i64 0), (by decide : convI .i64 0 ≤ 4294967295)⟩
  · simp only
    have hl : (r.b.take n.toNat).length ≤ 4 := by simp; omega
    have hbt := isB_take hb n.toNat
    rw [valO_val hbt (by omega)]
    have hv := val_bd0 hbt
    have h3 : (256 : Int) ^ (r.b.take n.toNat).length ≤ 256 ^ 4 := (by decide : ∀ k, k < 5 → (256 : Int) ^ k ≤ 256 ^ 4) _ (by omega)
    have h4 : (256 : Int) ^ 4 = 4294967296 := by decide
    rw [conv_i64 (by omega) (by omega)]
    omega
theorem rnum_isB {r : S_encode_reader} {x : Int × S_encode_reader} {n : Int} (h : x = encode_reader_number r n) (hb : isB r.b) : isB x.2.b := by
  rw [h, rnumber_eqM]; exact takeR_isB hb
theorem fail_isB {r x : S_encode_reader} {e : Int} (h : x = encode_reader_fail r e) (hb : isB r.b) : isB x.b := by
  rw [h, fail_eqM]; exact failR_isB hb
theorem take_isB {r : S_encode_reader} {x : List Int × S_encode_reader} {n : Int} (h : x = encode_reader_take r n) (hb : isB r.b) : isB x.2.b := by
  rw [h, take_eqM]; exact takeR_isB hb
theorem item_loop {k n : Int} {f : S_encode_reader → S_api_Item × S_encode_reader} {F : (Int × S_encode_reader × List S_api_Item → S_api_Item × S_encode_reader) → Int × S_encode_reader × List S_api_Item → S_api_Item × S_encode_reader} {d : Int × S_encode_reader × List S_api_Item → S_api_Item × S_encode_reader}
    (hF : ∀ ag p, F ag p = if decide (p.1 < n) = true then (if (p.2.1.e != 0) = true then (⟨k, 0, [], p.2.2⟩, p.2.1) else ag (p.1 + 1, (f p.2.1).2, p.2.2 ++ [(f p.2.1).1])) else (⟨k, 0, [], p.2.2⟩, p.2.1)) :
    ∀ (fuel : Nat) (i : Int) (r : S_encode_reader) (l : List S_api_Item), (n - i).toNat < fuel → iter fuel F d (i, r, l) = (⟨k, 0, [], (loopR f (n - i).toNat l r).1⟩, (loopR f (n - i).toNat l r).2) := by
  intro fuel
  induction fuel with
  | zero => intro i r l h; omega
  | succ m ih =>
    intro i r l h
    rw [iter, hF]
    by_cases hi : i < n
    · rw [if_pos (decide_eq_true hi)]
      obtain ⟨q, hq⟩ : ∃ q, (n - i).toNat = q + 1 := ⟨(n - i).toNat - 1, by omega⟩
      by_cases he : r.e = 0
      · simp only [he, bne_self_eq_false, Bool.false_eq_true, if_false]
        rw [ih _ _ _ (by omega), hq]
        simp only [loopR, he, ne_eq, not_true_eq_false, if_false]
        rw [show (n - (i + 1)).toNat = q by omega]
      · have : (r.e != 0) = true := by simpa using he
        simp only [this, if_true]
        rw [hq, loopR_err he]
    · rw [if_neg (by simpa using hi)]
      rw [show (n - i).toNat = 0 by omega]; rfl
theorem encode_reader_item_eqM {r : S_encode_reader} {depth : Int} (h0 : 0 ≤ depth) (h1 : isB r.b) : encode_reader_item r depth = itemM r depth := by
  obtain ⟨d, rfl⟩ : ∃ d : Nat, depth = d := ⟨depth.toNat, by omega⟩
  clear h0
  have hit : itemM r (d : Int) = itemG (match d with | 0 => none | d + 1 => some (itemN d)) r := by cases d <;> rfl
  rw [hit]
  unfold encode_reader_item itemG
  simp only [letk, letj, rnumber_eqM, fail_eqM, take_eqM, bytes_Clone]
  generalize numR r 1 = a
  generalize convI .i64 a.1 = k
  by_cases k1 : k < 1
  · simp [k1]
  by_cases k2 : k > 3
  · simp [k1, k2]
  by_cases k3 : k = 3
  · subst k3
    cases d with
    | zero => simp
    | succ d =>
      have hd : ((d + 1 : Nat) : Int) ≠ 0 := by omega
      have hI : ∀ q, itemM q (((d + 1 : Nat) : Int) - 1) = itemN d q := by
        intro q; unfold itemM; rw [show (((d + 1 : Nat) : Int) - 1).toNat = d by omega]
      simp only [hI]
      generalize numR a.2 4 = b
      generalize convI .i64 b.1 = n
      have hd2 : ¬ ((d : Int) + 1 = 0) := by omega
      have key : ∀ {F : (Int × S_encode_reader × List S_api_Item → S_api_Item × S_encode_reader) → Int × S_encode_reader × List S_api_Item → S_api_Item × S_encode_reader} {z : Int × S_encode_reader × List S_api_Item → S_api_Item × S_encode_reader} (q : S_encode_reader),
          (∀ ag p, F ag p = if p.1 < n then (if p.2.1.e = 0 then ag (p.1 + 1, (itemN d p.2.1).2, p.2.2 ++ [(itemN d p.2.1).1]) else (⟨3, 0, [], p.2.2⟩, p.2.1)) else (⟨3, 0, [], p.2.2⟩, p.2.1)) →
          iter (n.toNat + 1) F z (0, q, []) = (⟨3, 0, [], (loopR (itemN d) n.toNat [] q).1⟩, (loopR (itemN d) n.toNat [] q).2) := by
        intro F z q hF
        have := item_loop (k := 3) (n := n) (f := itemN d) (d := z) (F := F) (fun ag p => by rw [hF]; by_cases h1 : p.1 < n <;> by_cases h2 : p.2.1.e = 0 <;> simp [h1, h2]) (n.toNat + 1) 0 q [] (by omega)
        simpa using this
      by_cases hc : n > 1000
      · simp [hc]; rw [if_neg hd2]; exact key _ fun ag p => rfl
      · simp [hc]; rw [if_neg hd2]; exact key _ fun ag p => rfl
  by_cases k4 : k = 1
  · subst k4; simp
  by_cases k5 : k = 2
  · subst k5; simp
  omega
theorem Numbers_run {i : S_api_Item} (h : i.Kind = 3) : ∀ {l : List S_api_Item} {s : List Int}, (foldE (fun (a : S_api_Item) s => if (a.Kind != 1) = true then .inr (([] : List Int), (3 : Int)) else .inl (s ++ [a.N])) (fun s => (s, (0 : Int))) l s).2 ≠ 0 ∨ (foldE (fun (a : S_api_Item) s => if (a.Kind != 1) = true then .inr (([] : List Int), (3 : Int)) else .inl (s ++ [a.N])) (fun s => (s, (0 : Int))) l s).1 = s ++ l.map (·.N)
  | [], s => by right; simp [foldE]
  | a :: l, s => by
    simp only [foldE]
    by_cases ha : a.Kind = 1
    · have : (a.Kind != 1) = false := by simp [ha]
      simp only [this, Bool.false_eq_true, if_false]
      rcases Numbers_run h (l := l) (s := s ++ [a.N]) with h1 | h1
      · exact .inl h1
      · right; rw [h1]; simp
    · have : (a.Kind != 1) = true := by simpa using ha
      simp [this]
theorem Numbers_eqM (i : S_api_Item) : encode_Numbers i = if encode_Valid i = false then ([], 1) else if i.Kind ≠ 3 then ([], 3) else foldE (fun (a : S_api_Item) s => if (a.Kind != 1) = true then .inr (([] : List Int), (3 : Int)) else .inl (s ++ [a.N])) (fun s => (s, (0 : Int))) i.L [] := by
  unfold encode_Numbers
  simp only [letk]
  cases encode_Valid i
  · simp
  by_cases hk : i.Kind = 3
  · have : (i.Kind != 3) = false := by simp [hk]
    simp only [this, hk]
    rw [iter_run (l := i.L) (fun a s => if (a.Kind != 1) = true then .inr (([] : List Int), (3 : Int)) else .inl (s ++ [a.N])) (fun s => (s, (0 : Int))) (fun ag j s => by by_cases h : j < (i.L.length : Int) <;> by_cases h2 : (gt i.L j).Kind = 1 <;> simp [h, h2])]
    simp
  · have : (i.Kind != 3) = true := by simpa using hk
    simp [this, hk]
theorem Numbers_len {i : S_api_Item} {x : List Int × Int} (h : x = encode_Numbers i) : ¬ x.2 = 0 ∨ (x.1.length : Int) = i.L.length := by
  rw [h, Numbers_eqM]
  split
  · simp
  split
  · simp
  · rename_i hk
    rcases Numbers_run (i := i) (by simpa using hk) (l := i.L) (s := []) with h1 | h1
    · exact .inl h1
    · right; rw [h1]; simp
theorem hgt_int {x : S_api_Item} {n : Int} (h : x = payment_integer n) : hgt x = 1 := by rw [h]; rfl
def intI (n : Int) : S_api_Item := ⟨1, n, [], []⟩
def intsI (l : List Int) : S_api_Item := ⟨3, 0, [], l.map intI⟩
def bytI (b : List Int) : S_api_Item := ⟨2, 0, b, []⟩
def listI (l : List S_api_Item) : S_api_Item := ⟨3, 0, [], l⟩
theorem valid_eq (i : S_api_Item) : encode_Valid i = withinM i 8 := rfl
theorem within_list {l : List S_api_Item} {d : Int} (h : withinM (listI l) d = true) : l.length ≤ 1000 ∧ ∀ x ∈ l, withinM x (d - 1) = true := by
  simp only [listI, withinM] at h
  simp at h
  refine ⟨h.2.1, ?_⟩
  rw [withinL_all] at h
  exact List.all_eq_true.1 h.2.2
theorem within_kind3 {i : S_api_Item} {d : Int} (h : withinM i d = true) (hk : i.Kind = 3) : i = listI i.L := by
  obtain ⟨k, n, b, l⟩ := i
  simp only at hk
  subst hk
  simp [withinM] at h
  obtain ⟨rfl, rfl, _⟩ := h
  rfl
def readL {α : Type} (f : S_api_Item → Option α) : List S_api_Item → Option (List α)
  | [] => some []
  | x :: l => match f x with
    | none => none
    | some a => match readL f l with
      | none => none
      | some m => some (a :: m)
def optE {α β : Type} (z : β) (f : α → β) : Option α → β
  | none => z
  | some a => f a
theorem foldE_read {α R : Type} {f : S_api_Item → Option α} {E : List α → R} {z : R} : ∀ {l : List S_api_Item} {s : List α},
    foldE (fun a s => optE (.inr z) (fun y => .inl (s ++ [y])) (f a)) E l s = optE z (fun m => E (s ++ m)) (readL f l)
  | [], s => by simp [foldE, readL, optE]
  | a :: l, s => by
    simp only [foldE, readL]
    cases f a with
    | none => rfl
    | some y =>
      have ih := foldE_read (f := f) (E := E) (z := z) (l := l) (s := s ++ [y])
      refine ih.trans ?_
      cases readL f l <;> simp [optE]
def intF (a : S_api_Item) : Option Int := if a.Kind = 1 then some a.N else none
theorem Numbers_eq (i : S_api_Item) : encode_Numbers i = if withinM i 8 = false then ([], (1 : Int)) else if i.Kind ≠ 3 then ([], 3) else optE ([], (3 : Int)) (fun l => (l, 0)) (readL intF i.L) := by
  rw [Numbers_eqM, valid_eq]
  split
  · rfl
  split
  · rfl
  have : (fun (a : S_api_Item) (s : List Int) => if (a.Kind != 1) = true then Sum.inr (([] : List Int), (3 : Int)) else Sum.inl (s ++ [a.N])) = (fun a s => optE (.inr (([] : List Int), (3 : Int))) (fun y => .inl (s ++ [y])) (intF a)) := by
    funext a s
    unfold intF
    by_cases h : a.Kind = 1 <;> simp [h, optE]
  rw [this, foldE_read]
  rfl
theorem readL_map {α : Type} {f : S_api_Item → Option α} {g : α → S_api_Item} {n : α → α} : ∀ {m : List α}, (∀ a ∈ m, f (g a) = some (n a)) → readL f (m.map g) = some (m.map n)
  | [], _ => rfl
  | a :: m, h => by
    have := readL_map (m := m) (fun b hb => h b (by simp [hb]))
    simp only [List.map_cons, readL, h a (by simp), this]
theorem Numbers_ints {l : List Int} (h : withinM (intsI l) 8 = true) : encode_Numbers (intsI l) = (l, 0) := by
  rw [Numbers_eq, h]
  have : readL intF (l.map intI) = some (l.map id) := readL_map (fun a _ => by simp [intF, intI])
  simp [intsI] at this ⊢
  rw [this]; rfl
theorem arrN_arrN {α : Type} [Inhabited α] {l : List α} {n : Nat} : arrN n (arrN n l) = arrN n l := arrN_full arrN_len
theorem sl_tail {α : Type} {l : List α} : sl l 1 (l.length : Int) = l.drop 1 := by
  simp only [sl, Int.toNat_natCast]
  exact List.take_of_length_le (by simp)
theorem letk_go {α β : Type} {a : α} {f : α → β} {r : β} (h : ∀ x, x = a → f x = r) : letk a f = r := h a rfl
theorem encode_Decode_eq {b : List Int} (hb : isB b) : (∃ i, encode_Decode b = (i, 0) ∧ rdI 8 b = .ok (i, []) ∧ b.length ≤ 16384) ∨ ((encode_Decode b).2 ≠ 0 ∧ (b.length ≤ 16384 → ∀ i, rdI 8 b ≠ .ok (i, []))) := by
  unfold encode_Decode
  by_cases hl : (b.length : Int) > 16384
  · right
    rw [if_pos (by simpa using hl)]
    exact ⟨by simp, fun h => by omega⟩
  rw [if_neg (by simpa using hl)]
  have h8 : itemM ⟨b, 0⟩ 8 = itemN 8 ⟨b, 0⟩ := rfl
  have hr := itemN_rd 8 b hb
  simp only [letk, letj, h8, fail_eqM]
  cases hd : rdI 8 b with
  | error e =>
    rw [hd] at hr
    simp only [outR] at hr
    right
    refine ⟨?_, fun _ i h => by cases h⟩
    have hne : (itemN 8 ⟨b, 0⟩).2.e ≠ 0 := by rw [hr.1]; exact hr.2
    have hf : (failR (itemN 8 ⟨b, 0⟩).2 3).e ≠ 0 := by unfold failR; simp [hne]
    split <;> simp [hne, hf]
  | ok p =>
    obtain ⟨i, r⟩ := p
    rw [hd] at hr
    simp only [outR] at hr
    rw [hr]
    cases r with
    | nil => left; exact ⟨i, by simp, rfl, by omega⟩
    | cons x r =>
      right
      refine ⟨?_, fun _ j h => by cases h⟩
      simp [failR]
theorem rdI_full {i : S_api_Item} (hw : withinM i 8 = true) (ho : okI i) : rdI 8 (encI i) = .ok (i, []) := by
  have := rdI_enc 8 i [] hw ho
  simpa using this
theorem set_rep {k : Nat} {v : Int} {t : List Int} : (List.replicate (k + 1) (0 : Int) ++ t).set k v = List.replicate k 0 ++ v :: t := by
  rw [List.replicate_succ', List.append_assoc, List.set_append_right _ _ (by simp)]
  simp
theorem rnum_loop {F : (Int × Int × List Int → List Int) → Int × Int × List Int → List Int} {d : Int × Int × List Int → List Int}
    (hF : ∀ ag p, F ag p = if decide (p.2.1 ≥ 0) = true then ag (quoI .u64 p.1 256, p.2.1 - 1, st p.2.2 p.2.1 (convI .u8 (remI .u64 p.1 256))) else p.2.2) :
    ∀ (k fuel : Nat) (n : Int) (t : List Int), 0 ≤ n → n < 18446744073709551616 → k < fuel → iter fuel F d (n, (k : Int) - 1, List.replicate k 0 ++ t) = be k n ++ t
  | 0, fuel, n, t, _, _, hf => by
    obtain ⟨m, rfl⟩ : ∃ m, fuel = m + 1 := ⟨fuel - 1, by omega⟩
    rw [iter, hF]; simp [be]
  | k + 1, fuel, n, t, h0, h1, hf => by
    obtain ⟨m, rfl⟩ : ∃ m, fuel = m + 1 := ⟨fuel - 1, by omega⟩
    rw [iter, hF, if_pos (by simp)]
    have e1 : quoI .u64 n 256 = n / 256 := by
      unfold quoI
      rw [Int.tdiv_eq_ediv_of_nonneg h0]
      exact wrap_u64 (by omega) (by omega)
    have e2 : convI .u8 (remI .u64 n 256) = n % 256 := by
      unfold convI remI
      rw [Int.tmod_eq_emod_of_nonneg h0]
      show (n % 256) % 256 = n % 256
      omega
    have e3 : ((k + 1 : Nat) : Int) - 1 = (k : Int) := by omega
    simp only [e1, e2, e3]
    rw [show st (List.replicate (k + 1) 0 ++ t) (k : Int) (n % 256) = List.replicate k 0 ++ (n % 256) :: t from set_rep]
    rw [rnum_loop hF k m (n / 256) _ (by omega) (by omega) (by omega)]
    simp [be]
theorem rnumber_eq {n size : Int} (h0 : 0 ≤ n ∧ n < 18446744073709551616) (h1 : 0 ≤ size) : specieref07_number n size = be size.toNat n := by
  unfold specieref07_number
  have := rnum_loop (d := fun _ => default) (fun ag p => rfl) size.toNat ((size - 1 + 1).toNat + 1) n [] h0.1 h0.2 (by omega)
  rw [show ((size.toNat : Nat) : Int) = size by omega, List.append_nil, List.append_nil] at this
  exact this
theorem convR_u64 (n : Int) : 0 ≤ convI .u64 n ∧ convI .u64 n < 18446744073709551616 := by
  have := rng_convI .u64 n
  rw [rng_u64] at this
  omega
theorem foldl_enc : ∀ {l : List S_api_Item} {o : List Int}, l.foldl (fun s a => s ++ encI a) o = o ++ encL l
  | [], o => by simp [encL]
  | a :: l, o => by simp only [List.foldl_cons, foldl_enc (l := l), encL, List.append_assoc]
theorem specieref07_Encode_eqM (i : S_api_Item) : specieref07_Encode i = encI i := by
  obtain ⟨k, n, b, l⟩ := i
  unfold specieref07_Encode
  simp only [letk, encI, rnumber_eq (convR_u64 _) (by omega : (0 : Int) ≤ 8), rnumber_eq (convR_u64 _) (by omega : (0 : Int) ≤ 4)]
  have e8 : be (8 : Int).toNat (convI .u64 n) = be 8 n := be_u64_8
  have e4 : be (4 : Int).toNat (convI .u64 (b.length : Int)) = be 4 b.length := be_u64_4
  have e5 : be (4 : Int).toNat (convI .u64 (l.length : Int)) = be 4 l.length := be_u64_4
  simp only [e8, e4, e5]
  split
  · rfl
  split
  · simp
  · have := iter_run (l := l) (d := fun _ => default) (fun x o => .inl (o ++ encI x)) (fun o => o) (F := fun (ag11 : (Int × List Int) → (List Int)) (p11 : Int × List Int) => (if (decide (p11.1 < (l.length : Int))) then ag11 ((p11.1 + 1), (p11.2 ++ encI (gt l p11.1))) else p11.2)) (s := [3] ++ be 4 l.length) (fun ag i s => by simp only [decide_eq_true_eq])
    rw [this, foldE_l, foldl_enc]; simp
theorem value_fold : ∀ {l : List Int}, isB l → ∀ {a : Int} {k : Nat}, 0 ≤ a → a < 256 ^ k → k + l.length ≤ 8 → l.foldl (fun a x => addI .u64 (mulI .u64 256 a) (convI .u64 x)) a = valA a l
  | [], _, a, k, _, _, _ => rfl
  | x :: l, h, a, k, h0, h1, h2 => by
    have hx := h x (by simp)
    simp only [List.length_cons] at h2
    have h3 : (256 : Int) ^ k ≤ 256 ^ 7 := (by decide : ∀ k, k < 8 → (256 : Int) ^ k ≤ 256 ^ 7) k (by omega)
    have h4 : (256 : Int) ^ 7 = 72057594037927936 := by decide
    simp only [List.foldl_cons, valA]
    have e : addI .u64 (mulI .u64 256 a) (convI .u64 x) = 256 * a + x := by
      unfold addI mulI convI
      rw [wrap_u64 (a := 256 * a) (by omega) (by omega), wrap_u64 (a := x) (by omega) (by omega), wrap_u64 (by omega) (by omega)]
    rw [e]
    exact value_fold (k := k + 1) (fun y hy => h y (by simp [hy])) (by omega) (by rw [Int.pow_succ]; omega) (by omega)
theorem value_eq {l : List Int} (h : isB l) (hl : l.length ≤ 8) : specieref07_value l = valA 0 l := by
  unfold specieref07_value
  have := iter_runR (l := l) (d := fun _ => default) (fun x a => .inl (addI .u64 (mulI .u64 256 a) (convI .u64 x))) (fun a => a) (F := fun (ag1 : (Int × Int) → Int) (p1 : Int × Int) => (if (decide (p1.2 < (l.length : Int))) then (ag1 ((addI .u64 (mulI .u64 256 p1.1) (convI .u64 (gt l p1.2))), (p1.2 + 1))) else p1.1)) (s := 0) (fun ag i s => by simp only [decide_eq_true_eq])
  rw [this, foldE_l, value_fold (k := 0) h (by omega) (by decide) (by omega)]
mutual
theorem encI_len : ∀ i : S_api_Item, (encI i).length ≤ 9 * hgt i
  | ⟨k, n, b, l⟩ => by
    have h := encL_len l
    simp only [encI, hgt]
    split
    · simp only [List.length_cons, be_len]; omega
    split
    · simp only [List.length_cons, List.length_append, be_len]; omega
    · simp only [List.length_cons, List.length_append, be_len]; omega
theorem encL_len : ∀ l : List S_api_Item, (encL l).length ≤ 9 * hgtL l
  | [] => by simp [encL]
  | x :: l => by
    have h1 := encI_len x
    have h2 := encL_len l
    simp only [encL, hgtL, List.length_append]; omega
end
theorem enc_after {x : List Int} {i : S_api_Item} (h : x = encI i) : x.length ≤ 9 * hgt i := by rw [h]; exact encI_len i
theorem rnl {x : List Int} {n size : Int} (h : x = specieref07_number (convI .u64 n) size) (h1 : decide (0 ≤ size) = true) : (x.length : Int) = size := by
  have h2 : 0 ≤ size := by simpa using h1
  rw [h, rnumber_eq (convR_u64 _) h2, be_len]; omega
theorem hgtL_drop {l : List S_api_Item} {i : Int} (h : i.toNat < l.length) : hgtL (l.drop i.toNat) = hgt (gt l i) + hgtL (l.drop (i.toNat + 1)) := by
  rw [List.drop_eq_getElem_cons h]
  simp [hgtL, gt, List.getD_eq_getElem?_getD, h]
theorem isB_sl {l : List Int} {i j : Int} (h : isB l) : isB (sl l i j) := fun x hx => h x (List.mem_of_mem_drop (List.mem_of_mem_take hx))
theorem value_fact {l : List Int} {x : Int} (h : x = specieref07_value l) (hb : isB l) : l.length > 4 ∨ (0 ≤ convI .i64 x ∧ convI .i64 x ≤ 4294967295) := by
  by_cases hl : l.length > 4
  · exact .inl hl
  · right
    rw [h, value_eq hb (by omega)]
    have h1 := val_bd0 hb
    have h2 : (256 : Int) ^ l.length ≤ 256 ^ 4 := (by decide : ∀ k, k < 5 → (256 : Int) ^ k ≤ 256 ^ 4) l.length (by omega)
    have h3 : (256 : Int) ^ 4 = 4294967296 := by decide
    rw [conv_i64 (by omega) (by omega)]
    omega
theorem rread_isB {b : List Int} {w : Int} {x : S_api_Item × List Int × Int} (h : x = rreadM b w) (hb : isB b) : isB x.2.1 := by
  rw [h]; unfold rreadM
  cases h1 : rdI (8 - w).toNat b with
  | error e => exact fun x hx => by cases hx
  | ok v =>
    obtain ⟨i, r⟩ := v
    have h2 := (rdI_back _ b i r hb h1).1
    intro y hy
    exact hb y (by rw [h2]; exact List.mem_append_right _ hy)
theorem rd_ne {d : Nat} {b : List Int} (hb : isB b) {e : Int} (h : rdI d b = .error e) : e ≠ 0 := by
  have := itemN_rd d b hb
  rw [h] at this
  simp only [outR] at this
  intro he
  subst he
  simp_all
def rdOut (l : List S_api_Item) : Except Int (List S_api_Item × List Int) → S_api_Item × List Int × Int
  | .ok (m, r) => (⟨3, 0, [], l ++ m⟩, r, 0)
  | .error e => (z_api_Item, [], e)
theorem rread_loop {d : Nat} {w n : Int} (hd : (8 - (w + 1)).toNat = d) {F : (List Int × Int × S_api_Item × List S_api_Item → S_api_Item × List Int × Int) → List Int × Int × S_api_Item × List S_api_Item → S_api_Item × List Int × Int} {df : List Int × Int × S_api_Item × List S_api_Item → S_api_Item × List Int × Int}
    (hF : ∀ ag p, F ag p = if decide (p.2.1 < n) = true then (if ((rreadM p.1 (w + 1)).2.2 != 0) = true then (z_api_Item, [], (rreadM p.1 (w + 1)).2.2) else ag ((rreadM p.1 (w + 1)).2.1, p.2.1 + 1, p.2.2.1, p.2.2.2 ++ [(rreadM p.1 (w + 1)).1])) else (⟨3, 0, [], p.2.2.2⟩, p.1, 0)) :
    ∀ (m fuel : Nat) (i : Int) (b : List Int) (q : S_api_Item) (l : List S_api_Item), isB b → n - i = m → m < fuel → iter fuel F df (b, i, q, l) = rdOut l (rdL (rdI d) m b)
  | 0, fuel, i, b, q, l, hb, hm, hf => by
    obtain ⟨f, rfl⟩ : ∃ f, fuel = f + 1 := ⟨fuel - 1, by omega⟩
    have : ¬ i < n := by omega
    rw [iter, hF]; simp [this, rdL, rdOut]
  | m + 1, fuel, i, b, q, l, hb, hm, hf => by
    obtain ⟨f, rfl⟩ : ∃ f, fuel = f + 1 := ⟨fuel - 1, by omega⟩
    have hi : i < n := by omega
    rw [iter, hF]
    simp only [hi, decide_true, if_true]
    unfold rreadM
    rw [hd]
    simp only [rdL]
    cases hr : rdI d b with
    | error e => have := rd_ne hb hr; simp [this, rdOut]
    | ok v =>
      obtain ⟨x, r⟩ := v
      have hbr : isB r := fun y hy => hb y (by rw [(rdI_back d b x r hb hr).1]; exact List.mem_append_right _ hy)
      simp only [bne_self_eq_false, Bool.false_eq_true, if_false]
      rw [rread_loop hd hF m f (i + 1) r q (l ++ [x]) hbr (by omega) (by omega)]
      cases rdL (rdI d) m r with
      | error e => rfl
      | ok v => obtain ⟨l2, r2⟩ := v; simp [rdOut]
theorem rreadM_eq {b : List Int} {w : Int} : rreadM b w = match rdG (if 8 ≤ w then none else some (rdI (8 - (w + 1)).toNat)) b with
    | .ok (i, r) => (i, r, 0)
    | .error e => (z_api_Item, [], e) := by
  unfold rreadM
  by_cases h : 8 ≤ w
  · rw [if_pos h, show (8 - w).toNat = 0 by omega]; rfl
  · rw [if_neg h, show (8 - w).toNat = (8 - (w + 1)).toNat + 1 by omega]; rfl
theorem specieref07_read_eqM {b : List Int} {w : Int} (h0 : 0 ≤ w) (h1 : w ≤ 8) (hb : isB b) : specieref07_read b w = rreadM b w := by
  rw [rreadM_eq]
  cases b with
  | nil => simp [specieref07_read, rdG]
  | cons k r =>
    have hk := hb k (by simp)
    have hr : isB r := fun y hy => hb y (by simp [hy])
    have e1 : convI .i64 (gt (k :: r) 0) = k := by
      show convI .i64 k = k
      exact conv_i64 (by omega) (by omega)
    have e2 : sl (k :: r) 1 ((k :: r).length : Int) = r := by simp [sl]
    have e3 : sl r 0 4 = r.take 4 := by simp [sl]
    have e4 : sl r 4 (r.length : Int) = r.drop 4 := by simp [sl]; exact List.take_of_length_le (by simp)
    have e5 : sl r 0 8 = r.take 8 := by simp [sl]
    have e6 : sl r 8 (r.length : Int) = r.drop 8 := by simp [sl]; exact List.take_of_length_le (by simp)
    have e7 : ∀ v : Int, sl (r.drop 4) v ((r.drop 4).length : Int) = (r.drop 4).drop v.toNat := fun v => by unfold sl; exact List.take_of_length_le (by simp; omega)
    have e8 : ∀ v : Int, sl (r.drop 4) 0 v = (r.drop 4).take v.toNat := fun v => by simp [sl]
    have e0 : ¬ (((k :: r).length : Int) = 0) := by simp; omega
    have v4 : specieref07_value (r.take 4) = valA 0 (r.take 4) := value_eq (isB_take hr 4) (by simp; omega)
    have v8 : specieref07_value (r.take 8) = valA 0 (r.take 8) := value_eq (isB_take hr 8) (by simp; omega)
    unfold specieref07_read
    simp only [letk, letj, e1, e2, e3, e4, e5, e6, e7, e8, v4, v8]
    rw [if_neg (by simpa using e0)]
    by_cases k1 : k = 1
    · subst k1
      by_cases hl : r.length < 8
      · have : (r.length : Int) < 8 := by omega
        simp [rdG, hl, this]
      · have g1 : ¬ (r.length : Int) < 8 := by omega
        have g2 : ¬ (r.length : Int) < 4 := by omega
        simp [rdG, hl, g1, g2, conv_take8 hr (by omega)]
    by_cases k2 : k = 2
    · subst k2
      by_cases hl : r.length < 4
      · have : (r.length : Int) < 4 := by omega
        simp [rdG, hl, this]
      · have g2 : ¬ (r.length : Int) < 4 := by omega
        have c4 := conv_take4 hr (by omega)
        have b4 := val_bd0 (isB_take hr 4)
        simp only [rdG, hl, g2, c4]
        by_cases h5 : ((r.length - 4 : Nat) : Int) < valA 0 (r.take 4)
        · simp [h5]
        · simp [h5]
    by_cases k3 : k = 3
    · subst k3
      by_cases hw : w = 8
      · subst hw; simp [rdG]
      · have hw' : ¬ 8 ≤ w := by omega
        by_cases hl : r.length < 4
        · have : (r.length : Int) < 4 := by omega
          simp [rdG, hl, this, hw, hw']
        · have g2 : ¬ (r.length : Int) < 4 := by omega
          have c4 := conv_take4 hr (by omega)
          have b4 := val_bd0 (isB_take hr 4)
          simp only [rdG, hl, g2, c4, hw, hw', if_false]
          by_cases h6 : valA 0 (r.take 4) > 1000
          · simp [h6, hw]
          · have hl2 := rread_loop (df := fun _ => default) (w := w) (n := valA 0 (r.take 4)) rfl (fun ag p => rfl) (valA 0 (r.take 4)).toNat ((valA 0 (r.take 4) - 0).toNat + 1) 0 (r.drop 4) z_api_Item [] (isB_drop hr 4) (by omega) (by omega)
            simp [h6, hw]
            simp at hl2
            rw [hl2]
            cases rdL (rdI (8 - (w + 1)).toNat) (valA 0 (r.take 4)).toNat (r.drop 4) with
            | error e => rfl
            | ok v => rfl
    · have j1 : k < 1 ∨ k > 3 := by omega
      rcases j1 with j1 | j1
      · simp [rdG, k1, k2, k3, j1]
      · have : ¬ k < 1 := by omega
        simp [rdG, k1, k2, k3, j1]
theorem gt_arr' {α : Type} [Inhabited α] {l : List α} {n : Nat} {i : Int} (h : i.toNat < n) : gt (arrN n l) i = gt l i := by
  have := arrF_get (l := l) (k := n) (i := 0) (j := i.toNat) h
  unfold arrN
  rw [show gt (arrF l n 0) i = (arrF l n ((0 : Nat) : Int)).getD i.toNat default from rfl, this]
  unfold gt
  congr 1; omega
theorem rBytes_eq (h : List Int) : specieref31_Bytes h = bytI (arrN 32 h) := by
  unfold specieref31_Bytes
  have := iter_map0 (fun x : Int => x) (l := arrN 32 h) (d := fun _ => default) (E := fun p => bytI p.2) (F := fun (ag1 : (Int × List Int) → S_api_Item) (p1 : Int × List Int) => (if (decide (p1.1 < 32)) then (ag1 ((p1.1 + 1), (p1.2 ++ ([(gt h p1.1)] : List Int)))) else bytI p1.2)) (fun ag p => by
    rw [arrN_len]
    by_cases hp : p.1 < 32
    · have h1 : p.1.toNat < 32 := by omega
      simp [hp, gt_arr' h1]
    · simp [hp])
  rw [arrN_len] at this
  rw [List.map_id'] at this
  exact this
theorem hash_loop {B : List Int} (hB : B.length = 32) {F : (Int × List Int → List Int × Bool) → Int × List Int → List Int × Bool} {d : Int × List Int → List Int × Bool}
    (hF : ∀ ag p, F ag p = if decide (p.1 < 32) = true then ag (p.1 + 1, arrN 32 (st (arrN 32 p.2) p.1 (gt B p.1))) else (p.2, true)) :
    ∀ (m fuel k : Nat), k + m = 32 → m < fuel → ∀ a : List Int, a.length = 32 → a.take k = B.take k → iter fuel F d ((k : Int), a) = (B, true)
  | 0, fuel, k, hk, hf, a, ha, he => by
    obtain ⟨f, rfl⟩ : ∃ f, fuel = f + 1 := ⟨fuel - 1, by omega⟩
    have : ¬ (k : Int) < 32 := by omega
    rw [iter, hF]
    rw [List.take_of_length_le (by omega), List.take_of_length_le (by omega)] at he
    simp [this, he]
  | m + 1, fuel, k, hk, hf, a, ha, he => by
    obtain ⟨f, rfl⟩ : ∃ f, fuel = f + 1 := ⟨fuel - 1, by omega⟩
    have : (k : Int) < 32 := by omega
    rw [iter, hF, if_pos (by simpa using this)]
    have e : arrN 32 (st (arrN 32 a) (k : Int) (gt B (k : Int))) = a.set k (gt B (k : Int)) := by
      rw [arrN_full ha, arrN_full (by rw [st_len]; exact ha)]; rfl
    simp only [e]
    rw [show ((k : Int) + 1) = ((k + 1 : Nat) : Int) from rfl]
    refine hash_loop hB hF m f (k + 1) (by omega) (by omega) _ (by simp [ha]) ?_
    have hkB : k < B.length := by omega
    have hka : k < a.length := by omega
    rw [List.take_succ_eq_append_getElem hkB, List.take_succ_eq_append_getElem (by simp [hka])]
    rw [List.take_set_of_le (Nat.le_refl k), he]
    simp [gt, List.getD_eq_getElem?_getD, hkB]
theorem rHash_eq (i : S_api_Item) : specieref31_Hash i = spend_hash i := by
  rw [spend_hash_eq]
  unfold specieref31_Hash
  by_cases h1 : i.Kind = 2
  · by_cases h2 : i.B.length = 32
    · have h3 : ¬ ((i.B.length : Int) != 32) = true := by simp [h2]
      rw [if_neg (by simp [h1]), if_neg h3]
      have := hash_loop (d := fun _ => default) h2 (fun ag p => rfl) 32 33 0 rfl (by omega) [0, 0, 0, 0, 0, 0, 0, 0, 0, 0, 0, 0, 0, 0, 0, 0, 0, 0, 0, 0, 0, 0, 0, 0, 0, 0, 0, 0, 0, 0, 0, 0] rfl (by simp)
      rw [show (((32 : Int) - 0).toNat + 1) = 33 from rfl]
      refine Eq.trans this ?_
      simp [h1, h2, arrN_full h2]
    · have : ¬ (i.B.length : Int) = 32 := by omega
      simp [h1, h2, this]
  · simp [h1]
theorem rNumbers_eq (i : S_api_Item) (n : Int) : specieref31_Numbers i n = if i.Kind ≠ 3 ∨ (i.L.length : Int) ≠ n then ([], false) else foldE (fun x o => if x.Kind ≠ 1 then .inr ([], false) else .inl (o ++ [x.N])) (fun o => (o, true)) i.L [] := by
  unfold specieref31_Numbers
  by_cases h1 : i.Kind = 3
  · by_cases h2 : (i.L.length : Int) = n
    · subst h2
      have := iter_run (l := i.L) (d := fun _ => default) (fun x o => if x.Kind ≠ 1 then .inr (([] : List Int), false) else .inl (o ++ [x.N])) (fun o => (o, true)) (F := fun (ag3 : (Int × List Int) → ((List Int) × Bool)) (p3 : Int × List Int) => (if (decide (p3.1 < (i.L.length : Int))) then (if ((gt i.L p3.1).Kind != 1) then (([] : List Int), false) else (ag3 ((p3.1 + 1), (p3.2 ++ ([(gt i.L p3.1).N] : List Int))))) else (p3.2, true))) (s := []) (fun ag j s => by
        simp only [decide_eq_true_eq, bne_iff_ne, ne_eq]
        by_cases hj : j < (i.L.length : Int)
        · by_cases hk : (gt i.L j).Kind = 1 <;> simp [hj, hk]
        · simp [hj])
      simp only [h1, bne_self_eq_false, Bool.false_eq_true, if_false]
      rw [this]; simp
    · simp [h1, h2]
  · simp [h1]
theorem rNum_fold : ∀ {l : List S_api_Item} {o : List Int}, (foldE (fun x o => if x.Kind ≠ 1 then .inr (([] : List Int), false) else .inl (o ++ [x.N])) (fun o => (o, true)) l o).2 = false ∨ (foldE (fun x o => if x.Kind ≠ 1 then .inr (([] : List Int), false) else .inl (o ++ [x.N])) (fun o => (o, true)) l o).1.length = o.length + l.length
  | [], o => .inr (by simp [foldE])
  | x :: l, o => by
    by_cases h : x.Kind = 1
    · have := rNum_fold (l := l) (o := o ++ [x.N])
      simp only [foldE, h, ne_eq, not_true_eq_false, if_false]
      rcases this with h1 | h1
      · exact .inl h1
      · exact .inr (by rw [h1]; simp; omega)
    · exact .inl (by simp [foldE, h])
theorem rNum_len {i : S_api_Item} {n : Int} {x : List Int × Bool} (h : x = specieref31_Numbers i n) : x.2 = false ∨ (x.1.length : Int) = n := by
  rw [rNumbers_eq] at h
  split at h
  · rw [h]; exact .inl rfl
  · rename_i hc
    have h2 : (i.L.length : Int) = n := by
      by_cases h3 : (i.L.length : Int) = n
      · exact h3
      · exact absurd (.inr h3) hc
    rcases rNum_fold (l := i.L) (o := []) with h1 | h1
    · rw [h]; exact .inl h1
    · rw [h]; right; rw [h1]; simp; omega
instance rNum_cf {i : S_api_Item} {n : Int} : CF (specieref31_Numbers i n) (fun x => x.2 = true → (x.1.length : Int) = n) := ⟨fun h => (rNum_len rfl).resolve_left (by rw [h]; decide)⟩
theorem readL_len {α : Type} {f : S_api_Item → Option α} : ∀ {l : List S_api_Item} {m : List α}, readL f l = some m → m.length = l.length
  | [], m, h => by cases h; rfl
  | x :: l, m, h => by
    simp only [readL] at h
    cases hx : f x with
    | none => rw [hx] at h; cases h
    | some a =>
      rw [hx] at h
      cases hl : readL f l with
      | none => rw [hl] at h; cases h
      | some m' =>
        rw [hl] at h; cases h
        simp [readL_len hl]
theorem rNum {i : S_api_Item} (n : Int) (hv : withinM i 8 = true) : specieref31_Numbers i n = if (encode_Numbers i).2 = 0 ∧ ((encode_Numbers i).1.length : Int) = n then ((encode_Numbers i).1, true) else ([], false) := by
  have hs : (fun (x : S_api_Item) (o : List Int) => if x.Kind ≠ 1 then Sum.inr (([] : List Int), false) else Sum.inl (o ++ [x.N])) = (fun a s => optE (.inr (([] : List Int), false)) (fun y => .inl (s ++ [y])) (intF a)) := by
    funext a s
    unfold intF
    by_cases h : a.Kind = 1 <;> simp [h, optE]
  rw [rNumbers_eq, Numbers_eq, hv, hs, foldE_read]
  by_cases h1 : i.Kind = 3
  · cases hr : readL intF i.L with
    | none => simp [h1, optE]
    | some m =>
      have := readL_len hr
      simp only [h1, optE, List.nil_append]
      by_cases h2 : (i.L.length : Int) = n
      · simp [h2, this]
      · simp [h2, this]
  · simp [h1]
theorem rread_at {b : List Int} : rreadM b 0 = match rdI 8 b with | .ok (i, r) => (i, r, 0) | .error e => (z_api_Item, [], e) := rfl
theorem rDecode7 {b : List Int} (hb : isB b) : (∃ i, encode_Decode b = (i, 0) ∧ specieref07_Decode b = (i, 0) ∧ withinM i 8 = true) ∨ ((encode_Decode b).2 ≠ 0 ∧ (specieref07_Decode b).2 ≠ 0) := by
  rcases encode_Decode_eq hb with ⟨i, h1, h2, h3⟩ | ⟨h1, h2⟩
  · left
    refine ⟨i, h1, ?_, (rdI_back 8 b i [] hb h2).2.1⟩
    unfold specieref07_Decode
    rw [if_neg (by simp; omega)]
    simp [letk, rread_at, h2]
  · right
    refine ⟨h1, ?_⟩
    unfold specieref07_Decode
    by_cases hl : b.length ≤ 16384
    · rw [if_neg (by simp; omega)]
      simp only [letk]
      cases hd : rdI 8 b with
      | error e => have := rd_ne hb hd; have hx : rreadM b 0 = (z_api_Item, [], e) := by rw [rread_at, hd]
                   simp [hx, this]
      | ok p =>
        obtain ⟨i, r⟩ := p
        cases r with
        | nil => exact absurd hd (h2 hl i)
        | cons x r => have hx : rreadM b 0 = (i, x :: r, 0) := by rw [rread_at, hd]
                      simp [hx]
    · rw [if_pos (by simp; omega)]
      simp
theorem gt_arrN {α : Type} [Inhabited α] {l : List α} {n : Nat} {i : Int} (h0 : 0 ≤ i) (h : i.toNat < n) : gt (arrN n l) i = gt l i := by
  have := arrF_get (l := l) (k := n) (i := 0) (j := i.toNat) h
  unfold arrN
  rw [show gt (arrF l n 0) i = (arrF l n ((0 : Nat) : Int)).getD i.toNat default from rfl, this]
  congr 1; omega
theorem isB_app {l m : List Int} (h1 : isB l) (h2 : isB m) : isB (l ++ m) := fun x hx => by
  rcases List.mem_append.1 hx with h | h
  · exact h1 x h
  · exact h2 x h
theorem isB_cons {x : Int} {l : List Int} (h1 : 0 ≤ x ∧ x ≤ 255) (h2 : isB l) : isB (x :: l) := fun y hy => by
  rcases List.mem_cons.1 hy with rfl | h
  · exact h1
  · exact h2 y h
mutual
theorem encI_isB : ∀ (i : S_api_Item), okI i → isB (encI i)
  | ⟨k, n, b, l⟩, h => by
    simp only [okI] at h
    simp only [encI]
    split
    · exact isB_cons (by omega) be_isB
    split
    · exact isB_cons (by omega) (isB_app be_isB h.2.1)
    · exact isB_cons (by omega) (isB_app be_isB (encL_isB l h.2.2.2))
theorem encL_isB : ∀ (l : List S_api_Item), okL l → isB (encL l)
  | [], _ => fun x hx => by cases hx
  | x :: l, h => by
    simp only [okL] at h
    simp only [encL]
    exact isB_app (encI_isB x h.1) (encL_isB l h.2)
end
theorem okL_mem : ∀ {l : List S_api_Item}, (∀ x ∈ l, okI x) → okL l
  | [], _ => trivial
  | x :: l, h => ⟨h x (by simp), okL_mem (fun y hy => h y (by simp [hy]))⟩
theorem isB_nil : isB [] := fun x hx => by cases hx
def r64 (n : Int) : Prop := -9223372036854775808 ≤ n ∧ n ≤ 9223372036854775807
theorem ok_int {n : Int} (h : r64 n) : okI (intI n) := ⟨h, isB_nil, by decide, trivial⟩
theorem ok_list {l : List S_api_Item} (h : ∀ x ∈ l, okI x) : okI (listI l) := ⟨by omega, isB_nil, by simp, okL_mem h⟩
theorem ok_byt {b : List Int} (h : isB b) (hl : b.length = 32) : okI (bytI b) := ⟨by omega, h, by omega, trivial⟩
theorem ok_arr {l : List Int} (h : wfV (e_arr23 l)) : isB (arrN 32 l) := by
  refine isB_wf ?_
  simp only [e_arr23, wfV, wfL] at h
  simp only [arrN, arrF, List.map_cons, List.map_nil, wfL, wfV, Int.zero_add, Int.reduceAdd]
  exact h
end Go.Proofs.YtcbdmoihobdjaaaDoor
namespace Go.Proofs.YtcbdmoihobdjaaaDoor
open Go.RowKit
theorem hgt_rinv (v : S_api_Invoice) : hgt (specieref38_list [specieref31_Bytes v.Payee, specieref38_integer v.Amount, specieref38_integer v.Time, specieref38_integer v.Number]) ≤ 50000000 := by
 rw [rBytes_eq]
 simp [specieref38_list, specieref38_integer, bytI, hgt, hgtL, arrN_len]
theorem encode_len {i : S_api_Item} {x : List Int × Int} (h : x = encode_Encode i) : x.1.length ≤ 16384 := by
 rw [h]
 unfold encode_Encode
 simp only [letk]
 split
 ·simp
 ·split
  ·simp
  ·rename_i h2
   have h3 : ((writeM [] i).length : Int) ≤ 16384 := by simpa using h2
   show (writeM [] i).length ≤ 16384
   omega
theorem letk_P {α β : Type} {a : α} {f : α → β} (P : β → Prop) (h : ∀ x, x = a → P (f x)) : P (letk a f) := h a rfl
theorem inv_len {v : S_api_Invoice} {x : List Int × Int} (h : x = payment_Invoice v) : x.1.length ≤ 16384 := by
 rw [h]
 unfold payment_Invoice
 refine letk_P (fun r : List Int × Int => r.1.length ≤ 16384) fun x1 h1 => ?_
 by_cases c : (!x1) = true
 ·rw [if_pos c]; exact Nat.zero_le _
 ·rw [if_neg c]
  refine letk_P (fun r : List Int × Int => r.1.length ≤ 16384) fun x7 h7 => ?_
  refine letk_P (fun r : List Int × Int => r.1.length ≤ 16384) fun x10 h10 => ?_
  refine letk_P (fun r : List Int × Int => r.1.length ≤ 16384) fun x13 h13 => ?_
  refine letk_P (fun r : List Int × Int => r.1.length ≤ 16384) fun x16 h16 => ?_
  exact encode_len h16
theorem rinv_eq (v : S_api_Invoice) : specieref38_Invoice v = encI (specieref38_list [specieref31_Bytes v.Payee, specieref38_integer v.Amount, specieref38_integer v.Time, specieref38_integer v.Number]) := rfl
theorem rinv_len {v : S_api_Invoice} {x : List Int} (h : x = specieref38_Invoice v) : x.length ≤ 450000000 := by
 rw [h, rinv_eq]
 have h1 := encI_len (specieref38_list [specieref31_Bytes v.Payee, specieref38_integer v.Amount, specieref38_integer v.Time, specieref38_integer v.Number])
 have h2 := hgt_rinv v
 omega
instance hex_cf (h : List Int) : CF (digest_Hex h) (fun y => y.length = 64) := ⟨hexOf_len _ _⟩
theorem rhex_len (h : List Int) : (specieref06_Hex h).length = 64 := by
 unfold specieref06_Hex
 refine iter_inv (fun a : Int × List Int => 0 ≤ a.1 ∧ a.1 ≤ 32 ∧ (a.2.length : Int) = 2 * a.1) (fun r : List UInt8 => r.length = 64) (fun a => (32 - a.1).toNat) ?_ _ _ ⟨show (0 : Int) ≤ 0 by decide, show (0 : Int) ≤ 32 by decide, rfl⟩ (show ((32 : Int) - 0).toNat < ((32 : Int) - 0).toNat + 1 by decide)
 rintro ag ⟨i, q⟩ ⟨g0, g1, g2⟩ hag
 simp only at g0 g1 g2 hag ⊢
 by_cases hi : i < 32
 ·rw [if_pos (by simpa using hi)]
  exact hag _ ⟨by simp only; omega, by simp only; omega, by simp only [List.length_append, List.length_cons, List.length_nil]; omega⟩ (by simp only; omega)
 ·rw [if_neg (by simpa using hi)]
  rw [List.length_map]; omega
instance rhex_cf (h : List Int) : CF (specieref06_Hex h) (fun y => y.length = 64) := ⟨rhex_len h⟩
theorem hx_rng {h : List Int} (hw : wfV (e_arr23 h)) {i : Int} (h0 : 0 ≤ i) (h1 : i < 32) : 0 ≤ quoI .u8 (gt h i) 16 ∧ quoI .u8 (gt h i) 16 < 16 ∧ 0 ≤ remI .u8 (gt h i) 16 ∧ remI .u8 (gt h i) 16 < 16 := by
 have hb := ok_arr hw (gt (arrN 32 h) i) (gt_mem (by rw [arrN_len]; omega))
 rw [gt_arrN h0 (by omega)] at hb
 generalize gt h i = x at hb
 have e1 : x.tdiv 16 = x / 16 := Int.tdiv_eq_ediv_of_nonneg hb.1
 have e2 : quoI .u8 x 16 = x / 16 := by
  unfold quoI; rw [e1]
  simp [IntKind.wrap, IntKind.bits, IntKind.signed]
  omega
 have e3 : remI .u8 x 16 = x % 16 := Int.tmod_eq_emod_of_nonneg hb.1
 rw [e2, e3]; omega
@[go_sem] theorem take16_LEN {x : List UInt8} : (4 + (List.take 16 x).length ≤ LEN) = True := by
 rw [eq_iff_iff, iff_true, List.length_take]
 have : (16 : Nat) ≤ 16 := Nat.le_refl _
 show 4 + min 16 x.length ≤ 1073741824
 omega
end Go.Proofs.YtcbdmoihobdjaaaDoor
