/- Whoever walks down with the secret signs what whoever walks down without it verifies, and the text of either walks the same way (StrongboxKeyed). No condition. -/
import Derived.Test.YtnlkdheaohocnaaGreatDoorU1
import Derived.Test.YtnlkdheaohocnaaGreatDoorU6
import Derived.Great.Ranges
import Derived.Test.YtnlkdheaohocnaaGreatDoorU4
import Derived.Test.YtnlkdheaohocnaaGreatDoorU13
import Derived.Test.YtnlkdheaohocnaaGreatDoorU5
import Derived.Shelf.Spec.BitsCarry
import Derived.Lib.Hide
import Derived.Test.YtnlkdheaohocnaaGreatDoorRows
set_option maxRecDepth 1000000
set_option maxHeartbeats 16000000
set_option linter.unusedVariables false
set_option linter.unusedSimpArgs false
namespace Go.Proofs.YtnlkdheaohocnaaGreatDoor
open Go Go.RowKit Go.Great
section
variable {P:Program} {ops:Array Oper} {Q:Exit→Act→World→Prop} {w0 w:World} {L:List (Nat×TypeId×Array Value)} {rest:List Oper} {o:Oper} {a:Act}
theorem gQ {f:FuncId} {fn:Func} {args:List Operand} {KF:Array TypeId} {a:Act} (ho:o.op=.call { callee:=.value (.func f),args:=args.toArray,argTypes:=KF }) (hf:P.funcs[f]?=some fn) (KG:(fn.name== "runtime.NumGoroutine")=false) (hb:fn.body.isSome=true) (W:World):
 (execOp a.eval o).run P W=.ok (.enter f (args.map a.eval).toArray) W:=by
 obtain⟨c,hc⟩:=Option.isSome_iff_exists.1 hb;have h1:fn.name≠ "runtime.NumGoroutine":=by simpa using KG
 simp[execOp,ho,resolve,Act.eval,Deferred.ofValue,invoke,callFunc,hf,h1,hc]
end
def GJ:List Value→Nat→Value
 |[],_=>undef
 |v::_,0=>v
 |_::l,n+1=>GJ l n
theorem Fs:∀(l:List Value) (t:Nat),GJ l t=(l[t]?).getD undef
 |[],t=>by simp[GJ]
 |v::_,0=>by simp[GJ]
 |_::l,n+1=>by simp[GJ,Fs l n]
def evp (a:Act):List (Nat×Value)→Nat→Value
 |[],t=>GJ a.tmps.toList t
 |(k,v)::l,t=>bif Nat.beq t k then v else evp a l t
def ev (a:Act) (l:List (Nat×Value)):Operand→Value
 |.tmp t=>evp a l t
 |.const v=>v
 |.global g=>.pointer (some ⟨g,0,none⟩)
 |.func f=>.func (.func f) #[] #[]
def aG (a:Act):List (Nat×Value)→Act
 |[]=>a
 |(k,v)::l=>(aG a l).put (some k) v
theorem tT (a:Act):∀l,(aG a l).tmps.size=a.tmps.size
 |[]=>rfl
 |(k,v)::l=>by simp[aG,Act.put,tT a l]
theorem bI {a:Act}:∀{l:List (Nat×Value)},(∀p∈l,p.1<a.tmps.size)→∀x,(aG a l).eval x=ev a l x
 |[],_,x=>by
  cases x with
  |tmp t=>simp[aG,ev,evp,Fs,Act.eval]
  |_=>rfl
 |(k,v)::l,h,x=>by
  have ih:=bI (l:=l) (fun p hp=>h p (List.mem_cons_of_mem _ hp)) x
  cases x with
  |tmp t=>
   show ((aG a l).put (some k) v).eval (.tmp t)=bif Nat.beq t k then v else evp a l t
   by_cases hk:t=k
   · subst hk
     have aV:=h (t,v) (.head _);have h2:t<(aG a l).tmps.size:=by rw[tT];exact aV
     simp[Act.eval,Act.put,h2]
   have e1:Nat.beq t k=false:=by
    cases h:Nat.beq t k
    · rfl
    exact absurd (Nat.eq_of_beq_eq_true h) hk
   rw[e1,cond_false];rw[Act.eval_put (fun d hd he=>by injection hd with hd;injection he with he;exact hk (he.trans hd.symm))];exact ih
  |_=>rfl
structure ai (P:Program) (ops:Array Oper) (R:Act→World→Prop) (st:Nat→(Act→World→Prop)→Act→World→Prop) (a:Act) (w:World) (bV:List (Nat×Nat)) (l:List (Nat×Value)):Prop where
 run:(∀p∈l,p.1<a.tmps.size)→aI P ops R st 0 bV (aG a l) w
section
variable {P:Program} {ops:Array Oper} {Q:Exit→Act→World→Prop} {w0 w:World} {L:List (Nat×TypeId×Array Value)} {o:Oper} {a:Act} {R:Act→World→Prop} {st:Nat→(Act→World→Prop)→Act→World→Prop} {i d:Nat} {rest:List (Nat×Nat)} {l:List (Nat×Value)}
theorem aH {bV:List (Nat×Nat)} (h:ai P ops R st a w bV []):aI P ops R st 0 bV a w:=h.run (by simp)
theorem cW (ho:ops[i]?=some o) (hg:o.guard=none) (hd:o.dst=some d) (aV:Nat.blt d a.tmps.size=true) (v:Value) (hr:∀(ρ:Operand→Value),(∀x,ρ x=ev a l x)→∀W,(execOp ρ o).run P W=.ok (.value v) W)
 (h:ai P ops R st a w rest ((d,v)::l)):ai P ops R st a w ((i,0)::rest) l:=by
 constructor;intro hl;simp only[aI,if_true,ho];refine⟨v,.inl ⟨by simp[Region.wanted,hg],fun W _=>hr _ (bI hl) W⟩,?_⟩;rw[hd]
 exact h.run (fun p hp=>by
  rcases List.mem_cons.1 hp with rfl|hp
  · exact Nat.le_of_ble_eq_true aV
  exact hl p hp)
theorem aj (ho:ops[i]?=some o) (hg:o.guard=none) (hd:o.dst=some d) (aV:Nat.blt d a.tmps.size=true) (x:Operand) (cK:o.op=.move x∨o.op=.assign x) {v:Value} (hx:ev a l x=v) (h:ai P ops R st a w rest ((d,v)::l)):ai P ops R st a w ((i,0)::rest) l:=
 cW ho hg hd aV _ (fun ρ hρ W=>by unfold execOp;rcases cK with e|e<;>rw[e]<;>simp[hρ,hx]) h
theorem fq (ho:ops[i]?=some o) (hg:o.guard=none) (hd:o.dst=some d) (aV:Nat.blt d a.tmps.size=true) (x:Operand) (cK:o.op=.nilCheck x) {p:Addr} (hx:ev a l x=.pointer (some p)) (h:ai P ops R st a w rest ((d,.pointer (some p))::l)):ai P ops R st a w ((i,0)::rest) l:=
 cW ho hg hd aV _ (fun ρ hρ W=>by unfold execOp;rw[cK];simp[hρ,hx]) h
theorem bd (ho:ops[i]?=some o) (hg:o.guard=none) (hd:o.dst=some d) (aV:Nat.blt d a.tmps.size=true) (t:TypeId) (x:Operand) (k:Nat) (cK:o.op=.fieldAddr t x k) {g off n:Nat} (hx:ev a l x=.pointer (some ⟨g,off,none⟩)) (hr:∀g off W,(Instr.fieldAt t (.pointer (some ⟨g,off,none⟩)) k).run P W=.ok (.pointer (some ⟨g,off+n,none⟩)) W)
 (h:ai P ops R st a w rest ((d,.pointer (some ⟨g,off+n,none⟩))::l)):ai P ops R st a w ((i,0)::rest) l:=
 cW ho hg hd aV _ (fun ρ hρ W=>by unfold execOp;simp only[cK,hρ,hx,Sem.run_bind,hr,Result.andThen_ok];rfl) h
theorem aM (ho:ops[i]?=some o) (hg:o.guard=none) (hd:o.dst=some d) (aV:Nat.blt d a.tmps.size=true) (t:TypeId) (parts:List (Nat×Operand)) (cK:o.op=.build t parts.toArray) {vs:List (Nat×Value)} {cells:Array Value} (hc:P.built t vs=some cells)
 (CV:(parts.map fun p=>(p.1,ev a l p.2))=vs) (h:ai P ops R st a w rest ((d,.agg cells)::l)):ai P ops R st a w ((i,0)::rest) l:=
 cW ho hg hd aV _ (fun ρ hρ W=>by
  unfold execOp
  have hm:(parts.toArray.map fun (i,x)=>(i,ρ x)).toList=vs:=by
   rw[←CV];simp[hρ]
  simp only[cK,Sem.run_bind,run_build W t _ cells (hm▸hc),Result.andThen_ok];rfl) h
theorem aZ (ho:ops[i]?=some o) (hg:o.guard=none) (hd:o.dst=some d) (aV:Nat.blt d a.tmps.size=true) (x:Operand) (k:Nat) (cK:o.op=.extract x k) {vs:Array Value} (hx:ev a l x=.tuple vs) {v:Value} (hk:vs[k]?=some v) (h:ai P ops R st a w rest ((d,v)::l)):ai P ops R st a w ((i,0)::rest) l:=
 cW ho hg hd aV _ (fun ρ hρ W=>by unfold execOp;rw[cK];simp[hρ,hx,Instr.extract,hk]) h
theorem Aq (ho:ops[i]?=some o) (lQ:o.guard=none) (hd:o.dst=some d) (aV:Nat.blt d a.tmps.size=true) (v:Value) (hr:∀(ρ:Operand→Value),(∀x,ρ x=ev a l x)→∀W,Ext w W→(execOp ρ o).run P W=.ok (.value v) W)
 (h:ai P ops R st a w rest ((d,v)::l)):ai P ops R st a w ((i,1)::rest) l:=by
 constructor;intro hl;simp only[aI,if_true,ho,Nat.one_ne_zero,if_false];refine⟨v,.inl ⟨by simp[Region.wanted,lQ],fun W hW=>hr _ (bI hl) W hW⟩,?_⟩;rw[hd]
 exact h.run (fun p hp=>by
  rcases List.mem_cons.1 hp with rfl|hp
  · exact Nat.le_of_ble_eq_true aV
  exact hl p hp)
theorem bJ (ho:ops[i]?=some o) (lQ:o.guard=none) (hd:o.dst=some d) (aV:Nat.blt d a.tmps.size=true) (ty:TypeId) (x:Operand) (cK:o.op=.load ty x) {g off:Nat} (hx:ev a l x=.pointer (some ⟨g,off,none⟩))
 {D:TypeDesc} (hu:P.underlying ty=some D) (hD:D.isRow=true) {cs:Array Value} (hi:(P.info? ty).map (·.size)=some cs.size) (hc:w.rangeAt g off cs.toList) (h:ai P ops R st a w rest ((d,.agg cs)::l)):ai P ops R st a w ((i,1)::rest) l:=
 Aq ho lQ hd aV _ (fun ρ hρ W hW=>by
  unfold execOp;have hc':W.rangeAt g off cs.toList:=fun j v hv=>(hW.below.cell (World.block_lt_of_cell? w _ (hc j v hv))).trans (hc j v hv)
  have hl:=run_loadAt_mid W g off ty cs.toList D hc' hu hD (by rw[Array.length_toList];exact hi);simp only[cK,hρ,hx,Sem.run_bind,hl,Result.andThen_ok];rfl) h
theorem GL {f:FuncId} {fn:Func} {args:List Operand} {KF:Array TypeId} (ho:ops[i]?=some o) (cK:o.op=.call { callee:=.value (.func f),args:=args.toArray,argTypes:=KF }) (hf:P.funcs[f]?=some fn) (KG:(fn.name== "runtime.NumGoroutine")=false) (hb:fn.body.isSome=true) (hd:o.dst=some d) (aV:Nat.blt d a.tmps.size=true)
 {v:Value} (hC:∀W,Ext w W→Calls P f (args.map (ev a l)).toArray W fun e W'=>e=.returned v∧Below W.heap.size W W') (h:ai P ops R (Kr P ops) a w rest ((d,v)::l)):ai P ops R (Kr P ops) a w ((i,2)::rest) l:=by
 constructor;intro hl;refine Ao ho v (fun W hW=>?_) ?_
 · rw[gQ cK hf KG hb W,show args.map (aG a l).eval=args.map (ev a l) from List.map_congr_left (fun x _=>bI hl x)]
   exact Ap (Ext.refl W) (hC W hW)
 rw[hd]
 exact h.run (fun p hp=>by
  rcases List.mem_cons.1 hp with rfl|hp
  · exact Nat.le_of_ble_eq_true aV
  exact hl p hp)
theorem aF {f:FuncId} {args:List Operand} {KF:Array TypeId} (ho:ops[i]?=some o) (cK:o.op=.call { callee:=.value (.func f),args:=args.toArray,argTypes:=KF }) (hd:o.dst=some d)
 (h:∃fn v,P.funcs[f]?=some fn∧(fn.name== "runtime.NumGoroutine")=false∧fn.body.isSome=true∧Nat.blt d a.tmps.size=true∧(∀W,Ext w W→Calls P f (args.map (ev a l)).toArray W fun e W'=>e=.returned v∧Below W.heap.size W W')∧ai P ops R (Kr P ops) a w rest ((d,v)::l)):ai P ops R (Kr P ops) a w ((i,2)::rest) l:=by
 obtain⟨fn,v,h1,h2,h3,h4,h5,h6⟩:=h;exact GL ho cK h1 h2 h3 hd h4 h5 h6
theorem az (ho:ops[i]?=some o) (lQ:o.guard=none) (hd:o.dst=some d) (aV:Nat.blt d a.tmps.size=true) (ty:TypeId) (x:Operand) (cK:o.op=.load ty x) {g:Nat} (hx:ev a l x=.pointer (some ⟨g,0,none⟩))
 {D:TypeDesc} (hu:P.underlying ty=some D) (hD:D.isRow=true) {cs:Array Value} {t:Nat} (hg:w.heap[g]?=some (.cells cs t (0,0))) (hi:(P.info? ty).map (·.size)=some cs.size) (h:ai P ops R st a w rest ((d,.agg cs)::l)):ai P ops R st a w ((i,1)::rest) l:=
 bJ ho lQ hd aV ty x cK hx hu hD hi (fun j v hv=>by rw[Nat.zero_add,adn w g j cs t (0,0) hg];simpa using hv) h
theorem Ft (h:(∀p∈l,p.1<a.tmps.size)→R (aG a l) w):ai P ops R st a w [] l:=⟨fun hl=>aB (h hl)⟩
structure cu (P:Program) (ops:Array Oper) (Q:Exit→Act→World→Prop) (w:World) (a:Act) (tail:List (Nat×Nat)) (al F:List (Nat×TypeId×Array Value)) (l:List (Nat×Value)):Prop where
 run:(∀p∈l,p.1<a.tmps.size)→vL ops w (fun b W=>aI P ops (Q .normal) (fun i K a w=>wpOp P ops Q i K a w) 0 tail b W) al F (aG a l)
theorem bj {tail:List (Nat×Nat)} {al:List (Nat×TypeId×Array Value)} (h:cu P ops Q w a tail al [] l):ai P ops (fun b _=>vL ops w (fun b W=>aI P ops (Q .normal) (fun i K a w=>wpOp P ops Q i K a w) 0 tail b W) al [] b) st a w [] l:=Ft h.run
theorem cL {tail:List (Nat×Nat)} {F r:List (Nat×TypeId×Array Value)} {x:Nat×TypeId×Array Value} (hd:(ops[x.1]?).bind (·.dst)=some d) (aV:Nat.blt d a.tmps.size=true) (h:∀g,cu P ops Q w a tail r ((g,x.2)::F) ((d,.pointer (some ⟨g,0,none⟩))::l)):cu P ops Q w a tail (x::r) F l:=
 ⟨fun hl=>GI hd (fun g=>(h g).run (fun p hp=>by
  rcases List.mem_cons.1 hp with rfl|hp
  · exact Nat.le_of_ble_eq_true aV
  exact hl p hp))⟩
theorem bm (hM:Mem w0 w L) {tail:List (Nat×Nat)} {F:List (Nat×TypeId×Array Value)} (h:∀W,Mem w0 W (F++L)→ai P ops (Q .normal) (fun i K a w=>wpOp P ops Q i K a w) a W tail l):cu P ops Q w a tail [] F l:=
 ⟨fun hl=>KE (fun W hE hF hP=>(h W (hM.join hE hF hP)).run hl)⟩
theorem Dx (hM:Mem w0 w L) (k:Nat) (ho:ops[i]?=some o) (lQ:o.guard=none) (ty:TypeId) (x y:Operand) (cK:o.op=.store ty x y) (Kx:o.dst=none) {g:Nat} (hx:ev a l x=.pointer (some ⟨g,0,none⟩)) {t:Nat} {kP cs:Array Value} (e:L[k]?=some (g,t,kP)) (hy:ev a l y=.agg cs)
 (hi:(P.info? ty).map (·.size)=some cs.size) (hold:kP.size=cs.size) (h1:cs.all (·.oneCell')=true)
 (h:∀W,Mem w0 W (L.set k (g,t,cs))→ai P ops (Q .normal) (fun i K a w=>wpOp P ops Q i K a w) a W rest l):
 ai P ops (Q .normal) (fun i K a w=>wpOp P ops Q i K a w) a w ((i,3)::rest) l:=
 ⟨fun hl=>vM hM k ho lQ ty x y cK Kx g cs ((bI hl x).trans hx) ((bI hl y).trans hy) e hi hold h1 (fun W hW=>(h W hW).run hl)⟩
theorem dt {k:Nat} (hk:2≤k) (ho:ops[i]?=some o) (hg:o.guard.isNone=true) (h:(∀p∈l,p.1<a.tmps.size)→o.wp P (aG a l) w (fun a' w'=>aI P ops (Q .normal) (fun i K a w=>wpOp P ops Q i K a w) 0 rest a' w') Q):ai P ops (Q .normal) (fun i K a w=>wpOp P ops Q i K a w) a w ((i,k)::rest) l:=by
 constructor;intro hl;simp only[aI,show¬(k=0) by omega,show¬(k=1) by omega,if_false,wpOp,ho,nX hg,if_true];exact .inl (Oper.wp_mono (fun a' w' h'=>⟨.inl (adF _),h'⟩) (h hl))
theorem iK {a:Act} {l:List (Nat×Value)} {d:Nat} {v:Value} (aV:Nat.blt d a.tmps.size=true) (hl:∀p∈l,p.1<a.tmps.size):∀p∈(d,v)::l,p.1<a.tmps.size:=fun p hp=>by
 rcases List.mem_cons.1 hp with rfl|hp
 · exact Nat.le_of_ble_eq_true aV
 exact hl p hp
theorem aw (hM:Mem w0 w L) {f:FuncId} {args:List Operand} {KF:Array TypeId} (ho:ops[i]?=some o) (hg:o.guard.isNone=true) (cK:o.op=.call { callee:=.value (.func f),args:=args.toArray,argTypes:=KF }) (hd:o.dst=some d)
 (h:∃fn v,P.funcs[f]?=some fn∧(fn.name== "runtime.NumGoroutine")=false∧fn.body.isSome=true∧Nat.blt d a.tmps.size=true∧(∀W,Ext w W→Calls P f (args.map (ev a l)).toArray W fun e W'=>e=.returned v∧Below W.heap.size W W')∧∀W,Mem w0 W L→ai P ops (Q .normal) (fun i K a w=>wpOp P ops Q i K a w) a W rest ((d,v)::l)):ai P ops (Q .normal) (fun i K a w=>wpOp P ops Q i K a w) a w ((i,4)::rest) l:=by
 obtain⟨fn,v,h1,h2,h3,h4,h5,h6⟩:=h;refine dt (by decide) ho hg fun hl=>?_
 unfold Oper.wp;rw[gQ cK h1 h2 h3 w,show args.map (aG a l).eval=args.map (ev a l) from List.map_congr_left (fun x _=>bI hl x)];refine Calls.mono (h5 w (Ext.refl w)) fun e w' he=>?_
 obtain⟨rfl,bS⟩:=he;show aI P ops _ _ 0 rest ((aG a l).put o.dst v) w';rw[hd];exact(h6 _ (hM.below bS)).run (iK h4 hl)
theorem bh (hM:Mem w0 w L) (ho:ops[i]?=some o) (hg:o.guard.isNone=true) (t:TypeId) (x:Operand) (cK:o.op=.box t x) (hd:o.dst=some d) (aV:Nat.blt d a.tmps.size=true) {cs:Array Value} (hx:ev a l x=.agg cs)
 (h:∀W g,Mem w0 W ((g,t,cs)::L)→ai P ops (Q .normal) (fun i K a w=>wpOp P ops Q i K a w) a W rest ((d,.pointer (some ⟨g,0,none⟩))::l)):ai P ops (Q .normal) (fun i K a w=>wpOp P ops Q i K a w) a w ((i,5)::rest) l:=by
 refine dt (by decide) ho hg fun hl=>?_
 unfold Oper.wp execOp;simp only[cK,bI hl,hx,Sem.run_bind,Instr.box,newVar,newRow,run_newObj_alloc,Sem.run_pure,Result.andThen_ok];show aI P ops _ _ 0 rest ((aG a l).put o.dst _) _;rw[hd];exact(h _ _ (hM.new t cs)).run (iK aV hl)
theorem aq (hM:Mem w0 w L) (ho:ops[i]?=some o) (hg:o.guard.isNone=true) (hd:o.dst=some d) (aV:Nat.blt d a.tmps.size=true) {t:TypeId} {cs:Array Value} (Oo:∀(ρ:Operand→Value) (W:World),(execOp ρ o).run P W=.ok (.value (.pointer (some ⟨W.heap.size,0,none⟩))) (W.alloc (.cells cs t)))
 (h:∀W g,Mem w0 W ((g,t,cs)::L)→ai P ops (Q .normal) (fun i K a w=>wpOp P ops Q i K a w) a W rest ((d,.pointer (some ⟨g,0,none⟩))::l)):ai P ops (Q .normal) (fun i K a w=>wpOp P ops Q i K a w) a w ((i,6)::rest) l:=by
 refine dt (by decide) ho hg fun hl=>?_
 unfold Oper.wp;rw[Oo];show aI P ops _ _ 0 rest ((aG a l).put o.dst _) _;rw[hd];exact(h _ _ (hM.new t cs)).run (iK aV hl)
theorem k6:∀(bV:List (Nat×Nat)) (a:Act) (w:World),aI P ops (Q .normal) (fun i K a w=>wpOp P ops Q i K a w) 0 bV a w→wpOps P ops Q (bV.map (·.1)) a w
 |[],_,_,h=>h
 |(i,k)::rest,a,w,h=>by
  rw[List.map_cons,wpOps_cons];simp only[aI] at h
  by_cases iR:k=0
  · rw[if_pos iR] at h
    split at h
    · exact h.elim
    rename_i o ho;obtain⟨v,hy,h2⟩:=h;exact hy.wpOp ho trivial (k6 rest _ w h2)
  rw[if_neg iR] at h
  by_cases ko:k=1
  · rw[if_pos ko] at h
    split at h
    · exact h.elim
    rename_i o ho;obtain⟨v,hy,h2⟩:=h;exact hy.wpOp ho (Ext.refl w) (k6 rest _ w h2)
  rw[if_neg ko] at h;exact wpOp_mono (fun a' w' h'=>k6 rest a' w' h'.2) h
theorem ag {M m:List Oper} (k:Nat) (bV:List (Nat×Nat)) (hl:M.drop k=m) (hp:bV.map (·.1)=List.range' k m.length) (h:ai P M.toArray (Q .normal) (fun i K a w=>wpOp P M.toArray Q i K a w) a w bV []):wpList P M.toArray Q m a w:=by
 have h1:=k6 bV a w (h.run (by simp));rw[hp,wpOps_eq_wpList m k (fun j=>by rw[←hl];simp)] at h1;exact h1
theorem an (hM:Mem w0 w L) (ty:TypeId) (x y:Operand) (ho:ops[i]?=some o) (cK:o.op=.store ty x y)
 (h:∃(k g t:Nat) (kP cs:Array Value),o.guard=none∧o.dst=none∧ev a l x=.pointer (some ⟨g,0,none⟩)∧L[k]?=some (g,t,kP)∧ev a l y=.agg cs∧(P.info? ty).map (·.size)=some cs.size∧kP.size=cs.size∧cs.all (·.oneCell')=true∧
  ∀W,Mem w0 W (L.set k (g,t,cs))→ai P ops (Q .normal) (fun i K a w=>wpOp P ops Q i K a w) a W rest l):
 ai P ops (Q .normal) (fun i K a w=>wpOp P ops Q i K a w) a w ((i,3)::rest) l:=by
 obtain⟨k,g,t,kP,cs,h1,h2,h3,h4,h5,h6,h7,h8,h9⟩:=h;exact Dx hM k ho h1 ty x y cK h2 h3 h4 h5 h6 h7 h8 h9
theorem ay (h:∀K:Act→Prop,(∀b,R b w→K b)→K (aG a l)):ai P ops R st a w [] l:=Ft (fun _=>h _ (fun _ hb=>hb))
end
end Go.Proofs.YtnlkdheaohocnaaGreatDoor
namespace Go.Proofs.YtnlkdheaohocnaaGreatDoor
open Go Go.RowKit Go.Shelf
abbrev eP (x:BitVec 64):Value:=.int .u64 (x.toNat:Int)
theorem pR {P:Program} {e:TypeId} (hs:(P.info? e).map (·.size)=some 1) (W:World):(sizeOf e).run P W=.ok 1 W:=by
 cases hq:P.info? e with
 |none=>simp[hq] at hs
 |some i=>simp[hq] at hs;simp[sizeOf,typeInfo,hq,hs]
theorem Dy {P:Program} {t:TypeId} {q:IntKind} (hu:P.underlying t=some (.int q)) (W:World):(isAgg t).run P W=.ok false W:=by
 unfold isAgg;rw[Sem.run_bind,run_underlying hu W];rfl
section
variable {ops:Array Oper} {Q:Exit→Act→World→Prop} {w0 w:World} {L:List (Nat×TypeId×Array Value)} {o:Oper} {a:Act} {R:Act→World→Prop} {st:Nat→(Act→World→Prop)→Act→World→Prop} {i d:Nat} {rest:List (Nat×Nat)} {l:List (Nat×Value)}
theorem j2 (ho:ops[i]?=some o) (hg:o.guard=none) (hd:o.dst=some d) (aV:Nat.blt d a.tmps.size=true) (x y:Operand) (cK:o.op=.binOp .add 65 x y 65) {X Y:BitVec 64} (hx:ev a l x=eP X) (hy:ev a l y=eP Y) (h:ai Tryz.prog ops R st a w rest ((d,eP (X+Y))::l)):ai Tryz.prog ops R st a w ((i,0)::rest) l:=
 cW ho hg hd aV _ (fun ρ hρ W=>by
  have e1:=(hρ x).trans hx;have e2:=(hρ y).trans hy;unfold execOp;simp only[cK,e1,e2];go_simp;exact Kg X Y) h
theorem nZ (ho:ops[i]?=some o) (hg:o.guard=none) (hd:o.dst=some d) (aV:Nat.blt d a.tmps.size=true) (x y:Operand) (cK:o.op=.binOp .xor 65 x y 65) {X Y:BitVec 64} (hx:ev a l x=eP X) (hy:ev a l y=eP Y) (h:ai Tryz.prog ops R st a w rest ((d,eP (X ^^^ Y))::l)):ai Tryz.prog ops R st a w ((i,0)::rest) l:=
 cW ho hg hd aV _ (fun ρ hρ W=>by
  have e1:=(hρ x).trans hx;have e2:=(hρ y).trans hy;unfold execOp;simp only[cK,e1,e2];go_simp;exact Kh X Y) h
theorem xd (ho:ops[i]?=some o) (hg:o.guard=none) (hd:o.dst=some d) (aV:Nat.blt d a.tmps.size=true) (x y:Operand) (cK:o.op=.binOp .and 65 x y 65) {X Y:BitVec 64} (hx:ev a l x=eP X) (hy:ev a l y=eP Y) (h:ai Tryz.prog ops R st a w rest ((d,eP (X &&& Y))::l)):ai Tryz.prog ops R st a w ((i,0)::rest) l:=
 cW ho hg hd aV _ (fun ρ hρ W=>by
  have e1:=(hρ x).trans hx;have e2:=(hρ y).trans hy;unfold execOp;simp only[cK,e1,e2];go_simp;exact RC X Y) h
theorem n0 (ho:ops[i]?=some o) (hg:o.guard=none) (hd:o.dst=some d) (aV:Nat.blt d a.tmps.size=true) (x:Operand) (n:Nat) (cK:o.op=.binOp .shr 65 x (.const (.int .u64 (n:Int))) 57) (hn:n<64) {X:BitVec 64} (hx:ev a l x=eP X) (h:ai Tryz.prog ops R st a w rest ((d,eP (X>>>n))::l)):ai Tryz.prog ops R st a w ((i,0)::rest) l:=
 cW ho hg hd aV _ (fun ρ hρ W=>by
  have e1:=(hρ x).trans hx;have e2:ρ (.const (.int .u64 (n:Int)))=.int .u64 (n:Int):=hρ _;unfold execOp;simp only[cK,e1,e2];go_simp;exact Ki X n) h
theorem xe (ho:ops[i]?=some o) (hg:o.guard=none) (hd:o.dst=some d) (aV:Nat.blt d a.tmps.size=true) (x:Operand) (cK:o.op=.unOp .xor 65 x) {X:BitVec 64} (hx:ev a l x=eP X) (h:ai Tryz.prog ops R st a w rest ((d,eP (~~~X))::l)):ai Tryz.prog ops R st a w ((i,0)::rest) l:=
 cW ho hg hd aV _ (fun ρ hρ W=>by
  have e1:=(hρ x).trans hx;unfold execOp;simp only[cK,e1];go_simp;refine Eq.trans (RD X) ?_;simp) h
theorem Ov (t:TypeId) {n:Nat} {e:TypeId} (ho:ops[i]?=some o) (hg:o.guard=none) (hd:o.dst=some d) (aV:Nat.blt d a.tmps.size=true) (x y:Operand) (cK:o.op=.indexAddr t x y) {g:Nat} {k:Int} (hx:ev a l x=.pointer (some ⟨g,0,none⟩)) (hy:ev a l y=.int .i64 k) (hu:Tryz.prog.underlying t=some (.array n e)) (hs:(Tryz.prog.info? e).map (·.size)=some 1) (hk:0≤k∧k<n) (h:ai Tryz.prog ops R st a w rest ((d,(.pointer (some ⟨g,k.toNat,none⟩)))::l)):ai Tryz.prog ops R st a w ((i,0)::rest) l:=
 cW ho hg hd aV _ (fun ρ hρ W=>by
  have e1:=(hρ x).trans hx;have e2:=(hρ y).trans hy;obtain⟨m,rfl⟩:=Int.eq_ofNat_of_zero_le hk.1;unfold execOp;simp only[cK,e1,e2];go_simp;rw[pR hs W];go_simp) h
theorem bR (t:TypeId) {n:Nat} {e:TypeId} (ho:ops[i]?=some o) (hg:o.guard=none) (hd:o.dst=some d) (aV:Nat.blt d a.tmps.size=true) (x y:Operand) (cK:o.op=.indexAddr t x y) {g:Nat} {k:Nat} (hx:ev a l x=.pointer (some ⟨g,0,none⟩)) (hy:ev a l y=.int .i64 (k:Int)) (hu:Tryz.prog.underlying t=some (.array n e)) (hs:(Tryz.prog.info? e).map (·.size)=some 1) (hk:k<n) (h:ai Tryz.prog ops R st a w rest ((d,(.pointer (some ⟨g,k,none⟩)))::l)):ai Tryz.prog ops R st a w ((i,0)::rest) l:=
 Ov t ho hg hd aV x y cK hx hy hu hs ⟨by omega,by omega⟩ h
theorem fK (t:TypeId) {q:IntKind} (ho:ops[i]?=some o) (hg:o.guard=none) (hd:o.dst=some d) (aV:Nat.blt d a.tmps.size=true) (x:Operand) (cK:o.op=.load t x) {A:Addr} (hx:ev a l x=.pointer (some A)) (hu:Tryz.prog.underlying t=some (.int q)) {v:Value} (hc:w.cell? A=some v) (h:ai Tryz.prog ops R st a w rest ((d,v)::l)):ai Tryz.prog ops R st a w ((i,1)::rest) l:=
 Aq ho hg hd aV _ (fun ρ hρ W hW=>by
  have hc':W.cell? A=some v:=(hW.below.cell (World.block_lt_of_cell? w _ hc)).trans hc;have e1:=(hρ x).trans hx;unfold execOp;simp only[cK,e1];go_simp;rw[Dy hu W];go_simp) h
theorem tU (ho:ops[i]?=some o) (hg:o.guard=none) (hd:o.dst=some d) (aV:Nat.blt d a.tmps.size=true) (x y:Operand) (cK:o.op=.binOp .sub 3 x y 3) {X Y:Int} {n:Nat} (hx:ev a l x=.int .i64 X) (hy:ev a l y=.int .i64 Y) (hn:X-Y=(n:Int)) (hb:n<4294967296) (h:ai Tryz.prog ops R st a w rest ((d,.int .i64 (n:Int))::l)):ai Tryz.prog ops R st a w ((i,0)::rest) l:=
 cW ho hg hd aV _ (fun ρ hρ W=>by
  have e1:=(hρ x).trans hx;have e2:=(hρ y).trans hy;unfold execOp;simp only[cK,e1,e2];go_simp;exact IntWalk.i64_in _ (by omega)) h
end
theorem sf {w:World} {g t:Nat} {cs:Array Value} {fr:Nat×Nat} (h:w.heap[g]?=some (.cells cs t fr)) (k:Nat) (v:Value):w.setCell ⟨g,k,none⟩ v=w.setRow g (cs.setIfInBounds k v):=by
 have aV:=(adg.1 h).1;have hv:w.heap[g]=.cells cs t fr:=(adg.1 h).2;unfold World.setCell World.setRow;congr 1;apply Array.ext
 · simp
 intro i h1 h2;rw[Array.getElem_modify,Array.getElem_modify];split
 · rename_i e
   subst e;rw[hv];rfl
 rfl
section
variable {ops:Array Oper} {Q:Exit→Act→World→Prop} {w0 w:World} {L:List (Nat×TypeId×Array Value)} {o:Oper} {a:Act} {i:Nat} {rest:List (Nat×Nat)} {l:List (Nat×Value)}
theorem n5 (hM:Mem w0 w L) (ty:TypeId) (x y:Operand) (ho:ops[i]?=some o) (cK:o.op=.store ty x y) {q:IntKind} (hu:Tryz.prog.underlying ty=some (.int q)) (hs:(Tryz.prog.info? ty).map (·.size)=some 1)
 (h:∃(k g t j:Nat) (cs:Array Value) (v:Int),o.guard=none∧o.dst=none∧ev a l x=.pointer (some ⟨g,j,none⟩)∧L[k]?=some (g,t,cs)∧ev a l y=.int q v∧j<cs.size∧
  ∀W,Mem w0 W (L.set k (g,t,cs.setIfInBounds j (.int q v)))→ai Tryz.prog ops (Q .normal) (fun i K a w=>wpOp Tryz.prog ops Q i K a w) a W rest l):
 ai Tryz.prog ops (Q .normal) (fun i K a w=>wpOp Tryz.prog ops Q i K a w) a w ((i,3)::rest) l:=by
 obtain⟨k,g,t,j,cs,v,h1,h2,h3,h4,h5,h6,h7⟩:=h;have bG:=hM.at_ k h4;have hc:w.cell? ⟨g,j,none⟩=some cs[j]:=by rw[adn w g j _ t (0,0) bG];simp[h6]
 have hf:w.frozen? ⟨g,j,none⟩=false:=frozen_of_row w g j _ t bG;have hE:=h7 _ (hM.set k h4 (cs.setIfInBounds j (.int q v)));rw[←sf bG j (.int q v)] at hE;refine dt (by decide) ho (by rw[h1];rfl) fun hl=>?_
 have e1:=(bI hl x).trans h3;have e2:=(bI hl y).trans h5;have vH:=hE.run hl;have hn:=pR hs w;obtain⟨b,hb⟩:=ae (aG a l);rw[←hb] at e1 e2 vH⊢;unfold Oper.wp execOp;simp only[cK,e1,e2];clear hE hM bG h7;go_simp;rw[hb] at vH;exact vH
end
section
variable {ops:Array Oper} {Q:Exit→Act→World→Prop} {w0 w:World} {L:List (Nat×TypeId×Array Value)} {o:Oper} {a:Act} {R:Act→World→Prop} {st:Nat→(Act→World→Prop)→Act→World→Prop} {i d:Nat} {rest:List (Nat×Nat)} {l:List (Nat×Value)}
theorem db (ho:ops[i]?=some o) (hg:o.guard=none) (hd:o.dst=some d) (aV:Nat.blt d a.tmps.size=true) (t:TypeId) (x:Operand) (lo hi:Option Operand) (cK:o.op=.slice t x lo hi none) {V:Value} (hr:∀W,(Instr.sliceAt t (ev a l x) (lo.map (ev a l)) (hi.map (ev a l)) none).run Tryz.prog W=.ok V W) (h:ai Tryz.prog ops R st a w rest ((d,V)::l)):ai Tryz.prog ops R st a w ((i,0)::rest) l:=
 cW ho hg hd aV _ (fun ρ hρ W=>by
  obtain rfl:ρ=ev a l:=funext hρ;unfold execOp;simp only[cK,Option.map_none,Sem.run_bind,hr,Result.andThen_ok];rfl) h
theorem j3 (hM:Mem w0 w L) (ho:ops[i]?=some o) (hg:o.guard.isNone=true) (hd:o.dst=some d) (aV:Nat.blt d a.tmps.size=true) {dT sT E:TypeId} {z:Value} {bytes:Nat} (hE:El Tryz.prog dT E z bytes) (x y:Operand) (cK:o.op=.call { callee:=.builtin .copy,args:=#[x,y],argTypes:=#[dT,sT] })
 (h:∃(k g t off dLen dCap sLen sCap B:Nat) (cur:Array Value) (A:Option Addr) (cs:List Value),ev a l x=.slice (some ⟨g,off,none⟩) dLen dCap∧ev a l y=.slice A sLen sCap∧L[k]?=some (g,t,cur)∧cs.length=Nat.min sLen dLen∧Sl w B A cs∧off+cs.length≤cur.size∧(∀v∈cs,v.oneCell'=true)∧
  ∀W,Mem w0 W (L.set k (g,t,(cur.toList.take off++cs++cur.toList.drop (off+cs.length)).toArray))→ai Tryz.prog ops (Q .normal) (fun i K a w=>wpOp Tryz.prog ops Q i K a w) a W rest ((d,.int .i64 (cs.length:Int))::l)):
 ai Tryz.prog ops (Q .normal) (fun i K a w=>wpOp Tryz.prog ops Q i K a w) a w ((i,8)::rest) l:=by
 obtain⟨k,g,t,off,dLen,dCap,sLen,sCap,B,cur,A,cs,h1,h2,h3,h4,h5,h6,h7,h8⟩:=h;refine dt (by decide) ho hg fun hl=>?_
 refine iY hE x y cK ((bI hl x).trans h1) ((bI hl y).trans h2) (hM.at_ k h3) h4 h5 h6 h7 ?_;rw[hd];exact(h8 _ (hM.set k h3 _)).run (iK aV hl)
end
theorem dL {w:World} {g t:Nat} {xs:List Value} (h:w.heap[g]?=some (.cells xs.toArray t (0,0))) {k:Nat} {v:Value} (hx:xs[k]?=some v):w.cell? ⟨g,k,none⟩=some v:=by
 rw[adn w g _ _ t (0,0) h,List.getElem?_toArray,hx]
theorem Mem.setD {w0 w:World} {L:List (Nat×TypeId×Array Value)} (h:Mem w0 w L) (k:Nat) {g:Nat} {t:TypeId} {xs:List Value} (e:L[k]?=some (g,t,xs.toArray)) (j:Nat) (v:Value):Mem w0 (w.setCell ⟨g,j,none⟩ v) (L.set k (g,t,(xs.set j v).toArray)):=by
 rw[sf (h.at_ k e),List.setIfInBounds_toArray];exact h.set k e _
end Go.Proofs.YtnlkdheaohocnaaGreatDoor
namespace Go.Proofs.YtnlkdheaohocnaaGreatDoor
theorem Lp (e i:Nat) (h:i<256):dw e (i/64)/2^(i%64)%2=e/2^i%2:=by
 have h1:e/2^i=e/2^(64*(i/64))/2^(i%64):=by
  rw[Nat.div_div_eq_div_mul,←Nat.pow_add,Nat.div_add_mod]
 rw[h1,dw];generalize e/2^(64*(i/64))=x;have hr:i%64<64:=Nat.mod_lt _ (by decide);generalize i%64=r at hr⊢;have e1:(18446744073709551616:Nat)=2^r*2^(64-r):=by rw[←Nat.pow_add,show r+(64-r)=64 by omega]
 rw[e1,Nat.mod_mul_right_div_self];have e2:(2:Nat)^(64-r)=2*2^(63-r):=by rw[show 64-r=(63-r)+1 by omega,Nat.pow_succ,Nat.mul_comm]
 rw[e2,Nat.mod_mul_right_mod]
theorem Bh (m d L H:Nat) (h:m+d=2^256):(L+H*d)%m=(L+2^256*H)%m:=by
 rw[←h,show L+(m+d)*H=L+H*d+m*H by rw[Nat.add_mul,Nat.mul_comm d H];omega,Nat.add_mul_mod_self_left]
theorem Ip (d L H:Nat) (hd:d<2^256) (h:0<H):L+H*d<L+2^256*H:=by
 have:H*d<H*2^256:=Nat.mul_lt_mul_of_pos_left hd h;rw[Nat.mul_comm (2^256)];omega
theorem Bi (m d x:Nat) (h:m+d=2^256) (hd:d<m) (hx:x<2^256):(if x<m then x else x-m)=x%m:=by
 by_cases aV:x<m
 · rw[if_pos aV,adu aV]
 rw[if_neg aV,Nat.mod_eq_sub_mod (by omega),adu (by omega)]
end Go.Proofs.YtnlkdheaohocnaaGreatDoor
namespace Go.Proofs.YtnlkdheaohocnaaGreatDoor
open Go.RowKit Go.Shelf
def gq (xs:List Nat):List Value:=xs.map fun x:Nat=>.int .u64 (x:Int)
@[simp] theorem U64_length (xs:List Nat):(gq xs).length=xs.length:=by simp[gq]
def ax (n:Nat):Array Value:=#[.int .u64 (dw n 0:Nat),.int .u64 (dw n 1:Nat),.int .u64 (dw n 2:Nat),.int .u64 (dw n 3:Nat)]
theorem O0 (n:Nat):ax n=(gq (bC n)).toArray:=rfl
theorem O1 (T:List Nat) (k v:Nat):(gq T).toArray.setIfInBounds k (.int .u64 (v:Int))=(gq (T.set k v)).toArray:=by
 apply Array.ext';simp[gq,List.map_set]
theorem eG {w:World} {g t k:Nat} {T:List Nat} (h:w.heap[g]?=some (.cells (gq T).toArray t (0,0))) (hk:k<T.length):w.cell? ⟨g,k,none⟩=some (.int .u64 (T[k]:Int)):=by
 rw[adn _ _ _ _ _ (0,0) h];simp[gq,hk]
theorem dQ {w:World} {g t:Nat} {cs:Array Value} (h:w.heap[g]?=some (.cells cs t (0,0))) (k:Nat):w.frozen? ⟨g,k,none⟩=false:=by
 unfold World.frozen?;simp[h]
theorem vU {w:World} {g t k v:Nat} {T:List Nat} (h:w.heap[g]?=some (.cells (gq T).toArray t (0,0))):(w.setCell ⟨g,k,none⟩ (.int .u64 (v:Int))).heap[g]?=some (.cells (gq (T.set k v)).toArray t (0,0)):=by
 rw[heap_setCell_same w g k _ _ _ h,O1]
theorem fW {w:World} {g h k:Nat} {o:Obj} {v:Value} (hr:w.heap[h]?=some o) (bN:h≠g):(w.setCell ⟨g,k,none⟩ v).heap[h]?=some o:=by
 rw[heap_setCell_other _ _ _ _ (by simpa using bN)];exact hr
theorem dU {w:World} {o o':Obj} {k:Nat} (h:w.heap[k]?=some o):(w.alloc o').heap[k]?=some o:=
 (Below.heap_alloc w o' k (adg.1 h).1).trans h
theorem l6 (w:World) (o1 o2 o3 o4:Obj):((((w.alloc o1).alloc o2).alloc o3).alloc o4).heap[w.heap.size]?=some o1∧((((w.alloc o1).alloc o2).alloc o3).alloc o4).heap[w.heap.size+1]?=some o2∧
 ((((w.alloc o1).alloc o2).alloc o3).alloc o4).heap[w.heap.size+1+1]?=some o3∧((((w.alloc o1).alloc o2).alloc o3).alloc o4).heap[w.heap.size+1+1+1]?=some o4:=by
 have h1:=adk w o1;have h2:=adk (w.alloc o1) o2;have h3:=adk ((w.alloc o1).alloc o2) o3;have h4:=adk (((w.alloc o1).alloc o2).alloc o3) o4;simp only[adD] at h2 h3 h4;exact⟨dU (dU (dU h1)),dU (dU h2),dU h3,h4⟩
theorem aA {P:Program} {fn:Func} {p q:Tmp} {ty:TypeId} (h:fn.results=#[.cell p ty,.tmp q]) (tmps:Array Value) (w:World) (g:Nat) (t:TypeId) (cs:Array Value) (fr:Nat×Nat) (d:TypeDesc)
 (hp:tmps.getD p undef=.pointer (some ⟨g,0,none⟩)) (hg:w.heap[g]?=some (.cells cs t fr)) (v:Value) (hq:tmps.getD q undef=v)
 (hu:P.underlying ty=some d) (hd:(match d with|.struct _|.array _ _=>true|_=>false)=true) (hi:(P.info? ty).map (·.size)=some cs.size):
 (results fn tmps).run P w=.ok (.tuple #[.agg cs,v]) w:=by
 have hp':tmps[p]?.getD undef=.pointer (some ⟨g,0,none⟩):=by simpa using hp
 have XZ:tmps[q]?.getD undef=v:=by simpa using hq
 simp[results,h,hp',XZ,asAddr,run_loadVar_row w g t ty cs fr d hg hu hd hi]
theorem uu (T:List Nat) (h:T.length=4):∃a b c d,T=[a,b,c,d]:=by
 match T,h with
 |[a,b,c,d],_=>exact⟨a,b,c,d,rfl⟩
theorem oh (T:List Nat):(gq T).toArray.all (·.oneCell')=true:=by simp[gq];intro x _;rfl
theorem Iq (x y b:Nat) (hb:b≤1) (w:World):(callFunc 110 #[.int .u64 x,.int .u64 y,.int .u64 b]).run Tryz.prog w=
 .ok (.value (.tuple #[.int .u64 (((x+18446744073709551616-y-b)%18446744073709551616:Nat):Int),.int .u64 ((if x<y+b then 1 else 0:Nat):Int)])) w:=by
 rw[run_callFunc_extern Tryz.func110 (by kernel_rfl) (by kernel_rfl) (by kernel_rfl) (e:=sub64Entry) (by kernel_rfl),run_sub64 x y b hb];rfl
theorem xu (x y c:Nat) (hc:c≤1) (w:World):(callFunc 84 #[.int .u64 x,.int .u64 y,.int .u64 c]).run Tryz.prog w=
 .ok (.value (.tuple #[.int .u64 (((x+y+c)%18446744073709551616:Nat):Int),.int .u64 (((x+y+c)/18446744073709551616:Nat):Int)])) w:=by
 rw[run_callFunc_extern Tryz.func84 (by kernel_rfl) (by kernel_rfl) (by kernel_rfl) (e:=add64Entry) (by kernel_rfl),run_add64 x y c (by omega) (by omega) (by omega) (by omega)];simp only[Result.andThen];congr 5<;>omega
theorem Lq (x y b:Nat) (hx:x<18446744073709551616) (hy:y<18446744073709551616) (hb:b≤1):(x+18446744073709551616-y-b)%18446744073709551616+y+b=x+(if x<y+b then 1 else 0)*18446744073709551616:=by
 split<;>omega
theorem O2 (T X Y:List Nat) (k d b b':Nat) (hT:k<T.length) (hX:k<X.length) (hY:k<Y.length) (hd:d+Y[k]+b=X[k]+b'*18446744073709551616)
 (h:wv (T.take k)+wv (Y.take k)=wv (X.take k)+b*2^(64*k)):wv ((T.set k d).take (k+1))+wv (Y.take (k+1))=wv (X.take (k+1))+b'*2^(64*(k+1)):=by
 have h1:wv ((T.set k d).take (k+1))=wv (T.take k)+d*2^(64*k):=by
  rw[jX _ k (by simpa using hT),List.take_set_of_le (by omega),List.getElem_set_self]
 rw[h1,jX Y k hY,jX X k hX,Vz];have h2:(d+Y[k]+b)*2^(64*k)=(X[k]+b'*18446744073709551616)*2^(64*k):=by rw[hd]
 rw[Nat.add_mul,Nat.add_mul,Nat.add_mul] at h2;rw[←Nat.mul_assoc];omega
theorem O3 (T X Y:List Nat) (k d b b':Nat) (hT:k<T.length) (hX:k<X.length) (hY:k<Y.length) (hd:d+b'*18446744073709551616=X[k]+Y[k]+b)
 (h:wv (T.take k)+b*2^(64*k)=wv (X.take k)+wv (Y.take k)):wv ((T.set k d).take (k+1))+b'*2^(64*(k+1))=wv (X.take (k+1))+wv (Y.take (k+1)):=by
 have h1:wv ((T.set k d).take (k+1))=wv (T.take k)+d*2^(64*k):=by
  rw[jX _ k (by simpa using hT),List.take_set_of_le (by omega),List.getElem_set_self]
 rw[h1,jX Y k hY,jX X k hX,Vz];have h2:(d+b'*18446744073709551616)*2^(64*k)=(X[k]+Y[k]+b)*2^(64*k):=by rw[hd]
 rw[Nat.add_mul,Nat.add_mul,Nat.add_mul] at h2;rw[←Nat.mul_assoc];omega
theorem l8 (x y:Nat) (hx:x<2^256) (hy:y<2^256) (w:World):
 Calls Tryz.prog 72 #[.agg (ax x),.agg (ax y)] w fun e W'=>e=.returned (.tuple #[.agg (ax ((x+2^256-y)%2^256)),.bool (decide (x<y))])∧Below w.heap.size w W':=by
 have bx:Tryz.prog.follows .mixedOrders=true:=by kernel_rfl
 simp only[ax];go_enter Tryz.func72,Tryz.ntmps72;go_wp2_with fail;have h4:=l6 w (.cells (gq (bC x)).toArray 67) (.cells (gq (bC y)).toArray 67) (.cells (gq [0,0,0,0]).toArray 67) (.cells (gq [0,0,0,0]).toArray 67);obtain⟨W0,bD⟩:∃W0,W0=((((w.alloc (.cells (gq (bC x)).toArray 67)).alloc (.cells (gq (bC y)).toArray 67)).alloc (.cells (gq [0,0,0,0]).toArray 67)).alloc (.cells (gq [0,0,0,0]).toArray 67)):=⟨_,rfl⟩;have de:Below w.heap.size w W0:=by rw[bD];exact((((adl _ w).alloc (adi _) _).alloc (by simp) _).alloc (by simp;omega) _).alloc (by simp;omega) _
 refine(show W0=_ from bD)▸?_;rw[←bD] at h4;obtain⟨gX,gY,gO,gT⟩:=h4;obtain⟨B,hB⟩:=ae w.heap.size;have WO:w.heap.size≤B:=by omega
 rw[←hB] at gX gY gO gT⊢;clear bD hB
 go_loopw [7,9] (fun b i wr=>∃(k bo:Nat) (T:List Nat),k≤4∧i=.int .i64 k∧b=.int .u64 bo∧bo≤1∧Hid (T.length=4∧(∀t∈T,t<18446744073709551616)∧wv (T.take k)+wv ((bC y).take k)=wv ((bC x).take k)+bo*2^(64*k))∧
  wr.heap[B]?=some (.cells (gq (bC x)).toArray 67 (0,0))∧wr.heap[B+1]?=some (.cells (gq (bC y)).toArray 67 (0,0))∧wr.heap[B+1+1]?=some (.cells (gq [0,0,0,0]).toArray 67 (0,0))∧
  wr.heap[B+1+1+1]?=some (.cells (gq T).toArray 67 (0,0))∧Below w.heap.size w wr) (fun _ i _=>4-(intOf i).toNat)
 case atStart=>exact⟨0,0,[0,0,0,0],by omega,rfl,rfl,by omega,ab ⟨rfl,by simp,by simp[wv]⟩,gX,gY,gO,gT,de⟩
 case round=>
  clear gX gY gO gT de;obtain⟨k,bo,T,hk,rfl,rfl,VE,HT,gX,gY,gO,gT,hb⟩:=hrel;have vD:=HT.out.1
  by_cases aV:k<4
  · obtain⟨xk,oG⟩:∃xk,xk=(bC x)[k]'aV:=⟨_,rfl⟩
    obtain⟨yk,FM⟩:∃yk,yk=(bC y)[k]'aV:=⟨_,rfl⟩
    have Lr:xk<18446744073709551616:=by rw[oG];exact oa x _ (List.getElem_mem _)
    have Yd:yk<18446744073709551616:=by rw[FM];exact oa y _ (List.getElem_mem _)
    have cX:=eG gX (k:=k) aV;have cY:=eG gY (k:=k) aV;have cT:=eG gT (k:=k) (by omega);have zT:=dQ gT k;rw[←oG] at cX;rw[←FM] at cY;obtain⟨tk,vV⟩:∃tk:Nat,tk=T[k]'(by omega):=⟨_,rfl⟩
    rw[←vV] at cT;have GX:=ab gX;have GY:=ab gY;have GO:=ab gO;have GT:=ab gT;have NN:=ab oG;have Hyk:=ab FM;have hS:=fun ww=>Iq xk yk bo VE ww
    obtain⟨d,hd⟩:∃d,d=(xk+18446744073709551616-yk-bo)%18446744073709551616:=⟨_,rfl⟩;obtain⟨b',zA⟩:∃b',b'=(if xk<yk+bo then 1 else 0:Nat):=⟨_,rfl⟩;have hw:=Lq xk yk bo Lr Yd VE;have bH:b'≤1:=by rw[zA];split<;>omega
    have S5:d<18446744073709551616:=by rw[hd];exact Nat.mod_lt _ (by decide)
    rw[←hd,←zA] at hw;simp only[←hd,←zA] at hS;have Hw:=ab hw;clear gX gY gO gT oG FM hd zA hw vV vD;go_wp2_with fail;refine aE [(0,0),(1,0),(2,0),(3,1),(4,0),(5,0),(6,1),(7,0),(8,2),(9,0),(10,0),(11,0),(12,0),(13,2),(14,2)] 13 bx (by kernel_rfl) (by intro c a d v w h;cases d<;>exact h) ?_
    repeat ((first|(refine ao rfl (fun K hK=>?_))|(refine aD rfl (fun K hK=>?_)));go_simp;(first|(refine hK _ ?_) );clear hK K;(try go_bits))
    refine ah rfl rfl (fun K hK=>?_);go_wp2_with fail;refine⟨.inr (Ext.refl _),?_⟩
    repeat ((first|(refine ao rfl (fun K hK=>?_)) );go_simp;(first|(refine hK _ ?_) );clear hK K;(try go_bits))
    refine ah rfl rfl (fun K hK=>?_);go_wp2_with fail;refine⟨.inl (by decide),?_⟩;refine ah rfl rfl (fun K hK=>?_);go_wp2_with fail;refine⟨.inl (by decide),?_⟩;refine aB ?_;go_wp2_with fail;refine⟨⟨k+1,b',T.set k d,by omega,by go_num,rfl,bH,ab ⟨by simpa using HT.out.1,fun t ht=>?_,?_⟩,fW GX.out (by omega),fW GY.out (by omega),fW GO.out (by omega),vU GT.out,(hb.setCell (p:=⟨B+1+1+1,k,none⟩) (by show w.heap.size≤B+1+1+1;omega) _).drew⟩,by simp[intOf];omega⟩
    · rcases List.mem_or_eq_of_mem_set ht with h|h
      · exact HT.out.2.1 t h
      exact h▸S5
    refine O2 T (bC x) (bC y) k d bo b' (by rw[HT.out.1];exact aV) aV aV ?_ HT.out.2.2;rw[←NN.out,←Hyk.out];exact Hw.out
  obtain rfl:k=4:=by omega
  obtain⟨t0,t1,t2,t3,rfl⟩:=uu T vD
  have lW:bC ((x+2^256-y)%2^256)=[t0,t1,t2,t3]∧bo=(if x<y then 1 else 0):=by
   obtain⟨_,h2,h3⟩:=HT.out;have h4:=xq [t0,t1,t2,t3] h2;have hn:=p8 [t0,t1,t2,t3] rfl h2;rw[show [t0,t1,t2,t3].take 4=[t0,t1,t2,t3] from rfl,show (bC y).take 4=bC y from rfl,show (bC x).take 4=bC x from rfl,iN x hx,iN y hy] at h3;simp only[adz,List.length_nil] at h4;rw[←hn];generalize wv [t0,t1,t2,t3]=v at h3 h4;refine⟨?_,by split<;>omega⟩;congr 1;rcases (show bo=0∨bo=1 by omega) with rfl|rfl<;>omega
  obtain⟨cs,eA⟩:∃cs,cs=(gq [t0,t1,t2,t3]).toArray:=⟨_,rfl⟩;have lZ:cs.size=4:=by rw[eA];rfl
  have gn:Hid (cs.all (·.oneCell')=true):=ab (by rw[eA];exact oh _);have fe:Hid ((Tryz.prog.info? 67).map (·.size)=some cs.size):=ab (by rw[lZ];kernel_rfl);have KN:Hid ((gq [0,0,0,0]).toArray.size=cs.size):=ab lZ.symm;rw[←eA] at gT;have DF:=ab eA;have p7:=ab lW;have GT:=ab gT;have GO:=ab gO;clear eA lZ gX gY gT gO vD lW;go_wp2_with (first|(refine adw rfl 67 (.tmp 6) rfl (B+1+1+1) rfl 67 cs (0,0) _ GT.out Tryz.underlying67 rfl fe.out ?_)|(refine ado rfl 67 (.tmp 4) (.tmp 26) rfl (B+1+1) cs rfl rfl 67 _ GO.out fe.out KN.out gn.out ?_));refine adm (v:=.tuple #[.agg cs,.bool (decide (x<y))]) ?_ rfl ⟨?_,au hb (by omega) _⟩
  · refine aA rfl _ _ (B+1+1) 67 cs (0,0) _ rfl (adt _ _ _ _ _ _ GO.out) _ ?_ Tryz.underlying67 rfl fe.out
    show Value.bool ((bo:Int)==1)=_;rw[p7.out.2]
    by_cases h:x<y<;>simp[h]
  rw[DF.out,←p7.out.1];rfl
theorem rH (x y:Nat) (hx:x<2^256) (hy:y<2^256) (w:World):
 Calls Tryz.prog 75 #[.agg (ax x),.agg (ax y)] w fun e W'=>e=.returned (.tuple #[.agg (ax ((x+y)%2^256)),.int .u64 (((x+y)/2^256:Nat):Int)])∧Below w.heap.size w W':=by
 have bx:Tryz.prog.follows .mixedOrders=true:=by kernel_rfl
 simp only[ax];go_enter Tryz.func75,Tryz.ntmps75;go_wp2_with fail;have h4:=l6 w (.cells (gq (bC x)).toArray 67) (.cells (gq (bC y)).toArray 67) (.cells (gq [0,0,0,0]).toArray 67) (.cells (gq [0,0,0,0]).toArray 67);obtain⟨W0,bD⟩:∃W0,W0=((((w.alloc (.cells (gq (bC x)).toArray 67)).alloc (.cells (gq (bC y)).toArray 67)).alloc (.cells (gq [0,0,0,0]).toArray 67)).alloc (.cells (gq [0,0,0,0]).toArray 67)):=⟨_,rfl⟩;have de:Below w.heap.size w W0:=by rw[bD];exact((((adl _ w).alloc (adi _) _).alloc (by simp) _).alloc (by simp;omega) _).alloc (by simp;omega) _
 refine(show W0=_ from bD)▸?_;rw[←bD] at h4;obtain⟨gX,gY,gO,gT⟩:=h4;obtain⟨B,hB⟩:=ae w.heap.size;have WO:w.heap.size≤B:=by omega
 rw[←hB] at gX gY gO gT⊢;clear bD hB
 go_loopw [7,9] (fun b i wr=>∃(k bo:Nat) (T:List Nat),k≤4∧i=.int .i64 k∧b=.int .u64 bo∧bo≤1∧Hid (T.length=4∧(∀t∈T,t<18446744073709551616)∧wv (T.take k)+bo*2^(64*k)=wv ((bC x).take k)+wv ((bC y).take k))∧
  wr.heap[B]?=some (.cells (gq (bC x)).toArray 67 (0,0))∧wr.heap[B+1]?=some (.cells (gq (bC y)).toArray 67 (0,0))∧wr.heap[B+1+1]?=some (.cells (gq [0,0,0,0]).toArray 67 (0,0))∧
  wr.heap[B+1+1+1]?=some (.cells (gq T).toArray 67 (0,0))∧Below w.heap.size w wr) (fun _ i _=>4-(intOf i).toNat)
 case atStart=>exact⟨0,0,[0,0,0,0],by omega,rfl,rfl,by omega,ab ⟨rfl,by simp,by simp[wv]⟩,gX,gY,gO,gT,de⟩
 case round=>
  clear gX gY gO gT de;obtain⟨k,bo,T,hk,rfl,rfl,VE,HT,gX,gY,gO,gT,hb⟩:=hrel;have vD:=HT.out.1
  by_cases aV:k<4
  · obtain⟨xk,oG⟩:∃xk,xk=(bC x)[k]'aV:=⟨_,rfl⟩
    obtain⟨yk,FM⟩:∃yk,yk=(bC y)[k]'aV:=⟨_,rfl⟩
    have Lr:xk<18446744073709551616:=by rw[oG];exact oa x _ (List.getElem_mem _)
    have Yd:yk<18446744073709551616:=by rw[FM];exact oa y _ (List.getElem_mem _)
    have cX:=eG gX (k:=k) aV;have cY:=eG gY (k:=k) aV;have cT:=eG gT (k:=k) (by omega);have zT:=dQ gT k;rw[←oG] at cX;rw[←FM] at cY;obtain⟨tk,vV⟩:∃tk:Nat,tk=T[k]'(by omega):=⟨_,rfl⟩
    rw[←vV] at cT;have GX:=ab gX;have GY:=ab gY;have GO:=ab gO;have GT:=ab gT;have NN:=ab oG;have Hyk:=ab FM;have hS:=fun ww=>xu xk yk bo VE ww
    obtain⟨d,hd⟩:∃d,d=(xk+yk+bo)%18446744073709551616:=⟨_,rfl⟩;obtain⟨b',zA⟩:∃b',b'=(xk+yk+bo)/18446744073709551616:=⟨_,rfl⟩;have hw:d+b'*18446744073709551616=xk+yk+bo:=by omega
    have bH:b'≤1:=by omega
    have S5:d<18446744073709551616:=by rw[hd];exact Nat.mod_lt _ (by decide)
    simp only[←hd,←zA] at hS;have Hw:=ab hw;clear gX gY gO gT oG FM hd zA hw vV vD;go_wp2_with fail;refine aE [(0,0),(1,0),(2,0),(3,1),(4,0),(5,0),(6,1),(7,0),(8,2),(9,0),(10,0),(11,0),(12,0),(13,2),(14,2)] 13 bx (by kernel_rfl) (by intro c a d v w h;cases d<;>exact h) ?_
    repeat ((first|(refine ao rfl (fun K hK=>?_))|(refine aD rfl (fun K hK=>?_)));go_simp;(first|(refine hK _ ?_) );clear hK K;(try go_bits))
    refine ah rfl rfl (fun K hK=>?_);go_wp2_with fail;refine⟨.inr (Ext.refl _),?_⟩
    repeat ((first|(refine ao rfl (fun K hK=>?_)) );go_simp;(first|(refine hK _ ?_) );clear hK K;(try go_bits))
    refine ah rfl rfl (fun K hK=>?_);go_wp2_with fail;refine⟨.inl (by decide),?_⟩;refine ah rfl rfl (fun K hK=>?_);go_wp2_with fail;refine⟨.inl (by decide),?_⟩;refine aB ?_;go_wp2_with fail;refine⟨⟨k+1,b',T.set k d,by omega,by go_num,rfl,bH,ab ⟨by simpa using HT.out.1,fun t ht=>?_,?_⟩,fW GX.out (by omega),fW GY.out (by omega),fW GO.out (by omega),vU GT.out,(hb.setCell (p:=⟨B+1+1+1,k,none⟩) (by show w.heap.size≤B+1+1+1;omega) _).drew⟩,by simp[intOf];omega⟩
    · rcases List.mem_or_eq_of_mem_set ht with h|h
      · exact HT.out.2.1 t h
      exact h▸S5
    refine O3 T (bC x) (bC y) k d bo b' (by rw[HT.out.1];exact aV) aV aV ?_ HT.out.2.2;rw[←NN.out,←Hyk.out];exact Hw.out
  obtain rfl:k=4:=by omega
  obtain⟨t0,t1,t2,t3,rfl⟩:=uu T vD
  have lW:bC ((x+y)%2^256)=[t0,t1,t2,t3]∧bo=(x+y)/2^256:=by
   obtain⟨_,h2,h3⟩:=HT.out;have h4:=xq [t0,t1,t2,t3] h2;have hn:=p8 [t0,t1,t2,t3] rfl h2;rw[show [t0,t1,t2,t3].take 4=[t0,t1,t2,t3] from rfl,show (bC y).take 4=bC y from rfl,show (bC x).take 4=bC x from rfl,iN x hx,iN y hy] at h3;simp only[adz,List.length_nil] at h4;rw[←hn];generalize wv [t0,t1,t2,t3]=v at h3 h4;refine⟨?_,by omega⟩;congr 1;omega
  obtain⟨cs,eA⟩:∃cs,cs=(gq [t0,t1,t2,t3]).toArray:=⟨_,rfl⟩;have lZ:cs.size=4:=by rw[eA];rfl
  have gn:Hid (cs.all (·.oneCell')=true):=ab (by rw[eA];exact oh _);have fe:Hid ((Tryz.prog.info? 67).map (·.size)=some cs.size):=ab (by rw[lZ];kernel_rfl);have KN:Hid ((gq [0,0,0,0]).toArray.size=cs.size):=ab lZ.symm;rw[←eA] at gT;have DF:=ab eA;have p7:=ab lW;have GT:=ab gT;have GO:=ab gO;clear eA lZ gX gY gT gO vD lW;go_wp2_with (first|(refine adw rfl 67 (.tmp 6) rfl (B+1+1+1) rfl 67 cs (0,0) _ GT.out Tryz.underlying67 rfl fe.out ?_)|(refine ado rfl 67 (.tmp 4) (.tmp 26) rfl (B+1+1) cs rfl rfl 67 _ GO.out fe.out KN.out gn.out ?_));refine adm (v:=.tuple #[.agg cs,.int .u64 (bo:Int)]) ?_ rfl ⟨?_,au hb (by omega) _⟩
  · exact aA rfl _ _ (B+1+1) 67 cs (0,0) _ rfl (adt _ _ _ _ _ _ GO.out) _ rfl Tryz.underlying67 rfl fe.out
  rw[DF.out,←p7.out.1,p7.out.2];rfl
theorem Ls (a b c d a' b' c' d':Int) (w:World):(Op.equalIn 10000 67 (.agg #[.int .u64 a,.int .u64 b,.int .u64 c,.int .u64 d]) (.agg #[.int .u64 a',.int .u64 b',.int .u64 c',.int .u64 d'])).run Tryz.prog w=.ok (decide (a=a'∧b=b'∧c=c'∧d=d')) w:=by
 have u3:=Tryz.underlying65;have a3:=Tryz.isAgg65;have z3:=Tryz.sizeOf65;rw[show (10000:Nat)=9999+1 from rfl,Op.equalIn];simp only[Sem.run_bind,run_underlying Tryz.underlying67,Result.andThen_ok];simp only[Std.Legacy.Range.forIn_eq_forIn_range',Std.Legacy.Range.size,Nat.sub_zero,Nat.add_sub_cancel,Nat.div_one,List.range'_succ,List.range'_zero,List.forIn_cons,List.forIn_nil];go_simp
 by_cases h1:a=a'<;>by_cases h2:b=b'<;>by_cases h3:c=c'<;>by_cases h4:d=d'<;>simp[h1,h2,h3,h4]
theorem Lt (x y:Nat) (hx:x<2^256) (hy:y<2^256):(((dw x 0:Nat):Int)=(dw y 0:Nat)∧((dw x 1:Nat):Int)=(dw y 1:Nat)∧((dw x 2:Nat):Int)=(dw y 2:Nat)∧((dw x 3:Nat):Int)=(dw y 3:Nat))↔x=y:=by
 constructor
 · rintro⟨h1,h2,h3,h4⟩
   rw[←iN x hx,←iN y hy];simp only[bC];rw[show dw x 0=dw y 0 by omega,show dw x 1=dw y 1 by omega,show dw x 2=dw y 2 by omega,show dw x 3=dw y 3 by omega]
 rintro rfl;exact⟨rfl,rfl,rfl,rfl⟩
theorem D4 (x y:Nat) (hx:x<2^256) (hy:y<2^256) (w:World):(Op.equalIn 10000 67 (.agg (ax x)) (.agg (ax y))).run Tryz.prog w=.ok (decide (x=y)) w:=by
 have h:=Lt x y hx hy;unfold ax;rw[Ls]
 by_cases zD:x=y
 · rw[adA (h.2 zD),adA zD]
 rw[adI (fun hh=>zD (h.1 hh)),adI zD]
theorem iy (x:Nat) (hx:x<2^256) (w:World):
 Calls Tryz.prog 70 #[.agg (ax x)] w fun e W'=>e=.returned (.bool (decide (x=0)))∧Below w.heap.size w W':=by
 have h0:=D4 x 0 hx (by decide);rw[show ax 0=#[.int .u64 0,.int .u64 0,.int .u64 0,.int .u64 0] by rfl] at h0
 simp only[ax] at h0⊢;go_enter Tryz.func70,Tryz.ntmps70;go_wp2_with fail;go_ret;exact⟨rfl,(adl _ _).alloc (adi _) _⟩
end Go.Proofs.YtnlkdheaohocnaaGreatDoor
