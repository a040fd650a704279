import Derived.Test.YtcbdmoihobdjaaaH4
namespace Go.Proofs.Ytcbdmoihobdjaaa
open Go.RowKit
theorem gt_arr' {α : Type} [Inhabited α] {l : List α} {n : Nat} {i : Int} (h : i.toNat < n) : gt (arrN n l) i = gt l i := by
 have := arrF_get (l := l) (k := n) (i := 0) (j := i.toNat) h
 unfold arrN
 rw [show gt (arrF l n 0) i = (arrF l n ((0 : Nat) : Int)).getD i.toNat default from rfl, this]
 unfold gt
 congr 1; omega
theorem rBytes_eq (h : List Int) : specieref31_Bytes h = bytI (arrN 32 h) := by
 unfold specieref31_Bytes
 have := iter_map0 (fun x : Int => x) (l := arrN 32 h) (d := fun _ => default) (E := fun p => bytI p.2) (F := fun (ag1 : (Int × List Int) → S_api_Item) (p1 : Int × List Int) => (if (decide (p1.1 < 32)) then (ag1 ((p1.1 + 1), (p1.2 ++ ([(gt h p1.1)] : List Int)))) else bytI p1.2)) (fun ag p => by
  rw [arrN_len]
  by_cases hp : p.1 < 32
  ·have h1 : p.1.toNat < 32 := by omega
   simp [hp, gt_arr' h1]
  ·simp [hp])
 rw [arrN_len] at this
 rw [List.map_id'] at this
 exact this
theorem rInts_eq (l : List Int) : specieref31_Ints l = intsI l := by
 unfold specieref31_Ints
 exact iter_map0 (E := fun p => listI p.2) intI (fun ag p => rfl)
theorem rcoin_eq (c : S_api_Coin) : specieref31_Item c = coinI c := by
 unfold specieref31_Item
 simp only [letk, rInts_eq, rBytes_eq]; rfl
theorem foldl_map1 {α β : Type} {f : α → β} : ∀ {l : List α} {o : List β}, l.foldl (fun s a => s ++ [f a]) o = o ++ l.map f
 | [], o => by simp
 | a :: l, o => by simp only [List.foldl_cons, foldl_map1 (l := l)]; simp
theorem foldl_lv : ∀ {l : List S_api_Leaf} {o : List Int}, l.foldl (fun s x => s ++ [x.B, x.R1, x.R2]) o = o ++ leavesF l
 | [], o => by simp [leavesF]
 | a :: l, o => by simp only [List.foldl_cons, foldl_lv (l := l)]; simp [leavesF]
theorem rspend_eq (s : S_api_Spend) : specieref32_Item s = spendI s := by
 unfold specieref32_Item
 simp only [letk, rInts_eq, rBytes_eq, rcoin_eq, specieref32_list]
 have h2 : ∀ L : List Int, iter (((s.Path.L.length : Int) - 0).toNat + 1) (fun (ag4 : (Int × List S_api_Item) → S_api_Item) (p4 : Int × List S_api_Item) => (if (decide (p4.1 < (s.Path.L.length : Int))) then ag4 ((p4.1 + 1), (p4.2 ++ [bytI (arrN 32 (gt s.Path.L p4.1))])) else listI [coinI s.Coin, intsI [s.Node.Level, s.Node.Index], bytI (arrN 32 s.Context.Payee), intsI [s.Context.Time, s.Context.Number], intsI L, listI p4.2])) (fun _ => default) (0, [intI s.Path.Index]) = listI [coinI s.Coin, intsI [s.Node.Level, s.Node.Index], bytI (arrN 32 s.Context.Payee), intsI [s.Context.Time, s.Context.Number], intsI L, listI (intI s.Path.Index :: s.Path.L.map fun h => bytI (arrN 32 h))] := fun L => by
  have := iter_run (l := s.Path.L) (d := fun _ => default) (fun h o => .inl (o ++ [bytI (arrN 32 h)])) (fun o => listI [coinI s.Coin, intsI [s.Node.Level, s.Node.Index], bytI (arrN 32 s.Context.Payee), intsI [s.Context.Time, s.Context.Number], intsI L, listI o]) (F := fun (ag4 : (Int × List S_api_Item) → S_api_Item) (p4 : Int × List S_api_Item) => (if (decide (p4.1 < (s.Path.L.length : Int))) then ag4 ((p4.1 + 1), (p4.2 ++ [bytI (arrN 32 (gt s.Path.L p4.1))])) else listI [coinI s.Coin, intsI [s.Node.Level, s.Node.Index], bytI (arrN 32 s.Context.Payee), intsI [s.Context.Time, s.Context.Number], intsI L, listI p4.2])) (s := [intI s.Path.Index]) (fun ag i s => by simp only [decide_eq_true_eq])
  rw [this, foldE_l, foldl_map1]; rfl
 have h1 := iter_run (l := s.Leaves) (d := fun _ => default) (fun x o => .inl (o ++ [x.B, x.R1, x.R2])) (fun L => listI [coinI s.Coin, intsI [s.Node.Level, s.Node.Index], bytI (arrN 32 s.Context.Payee), intsI [s.Context.Time, s.Context.Number], intsI L, listI (intI s.Path.Index :: s.Path.L.map fun h => bytI (arrN 32 h))]) (F := fun (ag1 : (Int × List Int) → S_api_Item) (p1 : Int × List Int) => (if (decide (p1.1 < (s.Leaves.length : Int))) then (ag1 ((p1.1 + 1), (p1.2 ++ ([(gt s.Leaves p1.1).B, (gt s.Leaves p1.1).R1, (gt s.Leaves p1.1).R2] : List Int)))) else iter (((s.Path.L.length : Int) - 0).toNat + 1) (fun (ag4 : (Int × List S_api_Item) → S_api_Item) (p4 : Int × List S_api_Item) => (if (decide (p4.1 < (s.Path.L.length : Int))) then ag4 ((p4.1 + 1), (p4.2 ++ [bytI (arrN 32 (gt s.Path.L p4.1))])) else listI [coinI s.Coin, intsI [s.Node.Level, s.Node.Index], bytI (arrN 32 s.Context.Payee), intsI [s.Context.Time, s.Context.Number], intsI p1.2, listI p4.2])) (fun _ => default) (0, [intI s.Path.Index]))) (s := []) (fun ag i L => by simp only [h2]; simp only [decide_eq_true_eq])
 refine Eq.trans h1 ?_
 rw [foldE_l, foldl_lv]; rfl
theorem rspends_eq (l : List S_api_Spend) : specieref38_spendItems l = listI (l.map spendI) := by
 unfold specieref38_spendItems
 simp only [letk, rspend_eq, specieref38_list]
 exact iter_map0 (E := fun p => listI p.2) spendI (fun ag p => rfl)
theorem rescrow_eq (x : S_api_Escrow) : specieref36_Item x = escrowI x := by
 unfold specieref36_Item
 simp only [letk, rInts_eq]; rfl
theorem rpay_eq (p : S_api_Payment) : specieref38_Item p = payI p := by
 unfold specieref38_Item
 simp only [letk, rspend_eq, rspends_eq, rescrow_eq, specieref38_list, specieref38_integer]
 refine (iter_map0 (l := p.Chains) chainI (fun ag q => rfl)).trans ?_
 exact iter_map0 (l := p.Escrow) (E := fun q => listI [intI p.Number, listI (p.Spends.map spendI), listI (p.Chains.map chainI), listI q.2]) escrowI (fun ag q => rfl)
end Go.Proofs.Ytcbdmoihobdjaaa
