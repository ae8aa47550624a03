/- Whoever walks down with the secret signs what whoever walks down without it verifies, and the text of either walks the same way (StrongboxKeyed). No condition. -/
import Derived.Laws.Rows
import Derived.Laws.Tables
import Derived.Below
import Derived.Tactics
import Derived.Laws.World
import Derived.Deep.WholeRow
import Derived.Lib.Hide
set_option maxRecDepth 1000000
set_option maxHeartbeats 16000000
set_option linter.unusedVariables false
set_option linter.unusedSimpArgs false
namespace Go.Proofs.YtnlkdheaohocnaaGreatDoor
open Go Go.RowKit
theorem ab {p:Prop} (h:p):Hid p:=Lib.hid h
theorem ae {α:Sort _} (x:α):∃ y,y=x:=⟨_,rfl⟩
theorem adg.{u_1}:∀{α:Type u_1} {i:Nat} {b:α} {xs:Array α},xs[i]?=some b↔∃h:i<xs.size,xs[i]=b:=@Array.getElem?_eq_some_iff
theorem adh.{u}:∀{α:Type u} {a:α} {as bs:List α},a::as++bs=a::(as++bs):=@List.cons_append
theorem adi:∀(n:Nat),n≤n:=@Nat.le_refl
theorem adj.{u}:∀{α:Type u} (as:List α),[]++as=as:=@List.nil_append
theorem adk:∀(w:World) (o:Obj),(World.heap (World.alloc w o))[Array.size (World.heap w)]?=Option.some o:=@Go.heap_alloc_new
theorem adl:∀(B:Nat) (w:World),Below B w w:=@Go.RowKit.Below.refl
theorem adm:∀{P:Program} {fn:Func} {R:Ending→World→Prop} {a:Act} {w:World} {v:Value},Sem.run P (results fn (Act.tmps a)) w=Result.ok v w→Act.defers a=[]→R (Ending.returned v) w→bodyPost P fn R Exit.ret a w:=@Go.bodyPost_ret
theorem adn:∀(w:World) (g j:Nat) (cs:Array Value) (t:TypeId) (fr:Nat×Nat),(World.heap w)[g]?=Option.some (Obj.cells cs t fr)→World.cell? w { block:=g,off:=j }=cs[j]?:=@Go.cell_of_row
theorem ado:∀{P:Program} {ops:Array Oper} {rest:List Oper} {o:Oper} {a:Act} {w:World} {Q:Exit→Act→World→Prop},Oper.guard o=Option.none→∀(ty:TypeId) (x y:Operand),Oper.op o=Op.store ty x y→∀(g:Nat) (cells:Array Value),Act.eval a x=Value.pointer (Option.some { block:=g,off:=0 })→Act.eval a y=Value.agg cells→∀(t:TypeId) (old:Array Value),(World.heap w)[g]?=Option.some (Obj.cells old t)→Option.map (fun x=>TypeInfo.size x) (Tables.info? (Program.toTables P) ty)=Option.some (Array.size cells)→Array.size old=Array.size cells→(Array.all cells fun x=>Value.oneCell' x)=Bool.true→wpList P ops Q rest (Act.put a (Oper.dst o) undef) (World.setRow w g cells)→wpList P ops Q (o::rest) a w:=@Go.wpList_store_row
theorem adp.{u_1}:∀{α:Type u_1} {l:List α} {i:Nat} (h:i<List.length l),l[i]?=Option.some l[i]:=@List.getElem?_eq_getElem
theorem adq.{u_1}:∀{α:Type u_1} {i:Nat} {l:List α},List.length (List.take i l)=Min.min i (List.length l):=@List.length_take
theorem adr:∀{P:Program} {fn:Func} {p:Tmp} {ty:TypeId},Func.results fn=#[ResultVar.cell p ty]→∀(tmps:Array Value) (w:World) (g:Nat) (t:TypeId) (cs:Array Value) (fr:Nat×Nat) (d:TypeDesc),Array.getD tmps p undef=Value.pointer (Option.some { block:=g,off:=0 })→(World.heap w)[g]?=Option.some (Obj.cells cs t fr)→∀(hu:Program.underlying P ty=Option.some d),(match d,hu with|TypeDesc.struct fields,hu=>Bool.true|TypeDesc.array len elem,hu=>Bool.true|x,hu=>Bool.false)=Bool.true→Option.map (fun x=>TypeInfo.size x) (Tables.info? (Program.toTables P) ty)=Option.some (Array.size cs)→Sem.run P (results fn tmps) w=Result.ok (Value.agg cs) w:=@Go.results_cell_row
theorem ads:∀{n m k:Nat},n<m→m≤k→n<k:=@Nat.lt_of_lt_of_le
theorem adt:∀(w:World) (g:Nat) (old cs:Array Value) (t:TypeId) (fr:Nat×Nat),(World.heap w)[g]?=Option.some (Obj.cells old t fr)→(World.heap (World.setRow w g cs))[g]?=Option.some (Obj.cells cs t fr):=@Go.setRow_heap
theorem adu:∀{a b:Nat},a<b→a%b=a:=@Nat.mod_eq_of_lt
theorem adv.{u}:∀{α:Type u} {as bs:List α},List.length (as++bs)=List.length as+List.length bs:=@List.length_append
theorem adw:∀{P:Program} {ops:Array Oper} {rest:List Oper} {o:Oper} {a:Act} {w:World} {Q:Exit→Act→World→Prop},Oper.guard o=Option.none→∀(ty:TypeId) (x:Operand),Oper.op o=Op.load ty x→∀(g:Nat),Act.eval a x=Value.pointer (Option.some { block:=g,off:=0 })→∀(t:TypeId) (cs:Array Value) (fr:Nat×Nat) (d:TypeDesc),(World.heap w)[g]?=Option.some (Obj.cells cs t fr)→∀(hu:Program.underlying P ty=Option.some d),(match d,hu with|TypeDesc.struct fields,hu=>Bool.true|TypeDesc.array len elem,hu=>Bool.true|x,hu=>Bool.false)=Bool.true→Option.map (fun x=>TypeInfo.size x) (Tables.info? (Program.toTables P) ty)=Option.some (Array.size cs)→wpList P ops Q rest (Act.put a (Oper.dst o) (Value.agg cs)) w→wpList P ops Q (o::rest) a w:=@Go.wpList_load_row
theorem adx:∀(a b:Bool),((a&&b)=Bool.true)=(a=Bool.true∧b=Bool.true):=@Bool.and_eq_true
theorem ady.{u_1}:∀{α:Type u_1} {i:Nat} {l:List α},List.length l≤i→List.take i l=l:=@List.take_of_length_le
theorem adz.{u}:∀{α:Type u} {a:α} {as:List α},List.length (a::as)=List.length as+1:=@List.length_cons
theorem adA:∀{p:Prop} [inst:Decidable p],p→Decidable.decide p=Bool.true:=@decide_eq_true
theorem adB:∀{p:Prop} [inst:Decidable p],(Decidable.decide p=Bool.true)=p:=@decide_eq_true_eq
theorem adC.{u_1}:∀{α:Type u_1} {l₁ l₂:List α} {i:Nat},List.length l₁≤i→(l₁++l₂)[i]?=l₂[i-List.length l₁]?:=@List.getElem?_append_right
theorem adD:∀(w:World) (o:Obj),Array.size (World.heap (World.alloc w o))=Array.size (World.heap w)+1:=@Go.World.size_alloc
theorem adE.{u_1}:∀{α:Type u_1} {i:Nat} {a:α} {l:List α},l[i]?=Option.some a↔∃h,l[i]=a:=@List.getElem?_eq_some_iff
theorem adF:∀(n:Nat),0≤n:=@Nat.zero_le
theorem adG.{u_1}:∀{α:Type u_1} {l₁ l₂:List α} {i:Nat},i<List.length l₁→(l₁++l₂)[i]?=l₁[i]?:=@List.getElem?_append_left
theorem adH.{u_1}:∀{α:Type u_1} {i:Nat} {l:List α},List.length (List.drop i l)=List.length l-i:=@List.length_drop
theorem adI:∀{p:Prop} [inst:Decidable p],¬p→Decidable.decide p=Bool.false:=@decide_eq_false
theorem adJ:∀(w:World) (c c':Array Value) (t:TypeId),World.setRow (World.alloc w (Obj.cells c t)) (Array.size (World.heap w)) c'=World.alloc w (Obj.cells c' t):=@Go.World.setRow_alloc_new
theorem adK.{u_1}:∀{α:Type u_1} {i:Nat} {l:List α} (h:i<List.length l),List.take (i+1) l=List.take i l++[l[i]]:=@List.take_succ_eq_append_getElem
end Go.Proofs.YtnlkdheaohocnaaGreatDoor
