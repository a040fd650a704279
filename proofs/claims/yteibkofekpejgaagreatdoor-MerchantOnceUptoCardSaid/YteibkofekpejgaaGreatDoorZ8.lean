/- Texts of this proof, one after the other: EI. -/
import Derived.Test.YteibkofekpejgaaGreatDoorZ5
import Derived.Test.YteibkofekpejgaaGreatDoorZ7
set_option linter.unusedVariables false
set_option linter.unusedSimpArgs false
namespace Go.Proofs.YteibkofekpejgaaGreatDoor
open Go.RowKit
abbrev vi (n:Int):Value:= .int .i64 n
theorem xr (b:Nat): ∀(vs:List Value) (o:Nat) (w:World) (cur:Array Value) (T:TypeId),w.heap[b]? =some (.cells cur T (0,0))→o+vs.length≤cur.size→
  ∃cur':Array Value,(w.setCells b o vs).heap[b]? =some (.cells cur' T (0,0))∧cur'.size=cur.size∧cur'.toList=cur.toList.take o++vs++cur.toList.drop (o+vs.length)
 | [],o,w,cur,T,h,_=>⟨cur,h,rfl,by simp⟩
 | v::vs,o,w,cur,T,h,hl=>by
  simp only [List.length_cons] at hl
  have h1:(w.setCell ⟨b,o,none⟩ v).heap[b]? =some (.cells (cur.setIfInBounds o v) T (0,0)):=by
   rw [setCell_eq_setRow w b o cur T (0,0) v h]
   exact setRow_heap w b cur _ T _ h
  obtain ⟨cur',g1,g2,g3⟩:=xr b vs (o+1) _ _ T h1 (by simp;omega)
  refine ⟨cur',g1,by simpa using g2,?_⟩
  rw [g3]
  have e:(cur.setIfInBounds o v).toList=cur.toList.set o v:=by simp
  have ho:o<cur.toList.length:=by simp;omega
  rw [e]
  rw [List.take_set,List.drop_set_of_lt (by omega)]
  rw [List.take_add_one,List.getElem?_eq_getElem ho]
  simp only [List.length_cons,Option.toList_some,List.append_assoc]
  rw [List.set_append_right _ _ (by simp;omega)]
  simp only [List.length_take,show min o cur.toList.length=o by omega,Nat.sub_self,List.set_cons_zero]
  simp [List.append_assoc,Nat.add_assoc,Nat.add_comm 1]
theorem xt (b:Nat): ∀(vs:List Value) (o:Nat) (w:World) (k:Nat),k≠b→(w.setCells b o vs).heap[k]? =w.heap[k]?
 | [],_,_,_,_=>rfl
 | v::vs,o,w,k,h=>by
  rw [World.setCells,xt b vs (o+1) _ k h]
  exact Below.heap_setCell _ _ _ _ h
theorem xu (b:Nat): ∀(vs:List Value) (o:Nat) (w:World),(w.setCells b o vs).heap.size=w.heap.size∧(w.setCells b o vs).os=w.os∧(w.setCells b o vs).tape=w.tape∧(w.setCells b o vs).output=w.output
 | [],_,_=>⟨rfl,rfl,rfl,rfl⟩
 | v::vs,o,w=>by
  obtain ⟨h1,h2,h3,h4⟩:=xu b vs (o+1) (w.setCell ⟨b,o,none⟩ v)
  exact ⟨by rw [World.setCells,h1];simp [World.setCell],h2,h3,h4⟩
end Go.Proofs.YteibkofekpejgaaGreatDoor
