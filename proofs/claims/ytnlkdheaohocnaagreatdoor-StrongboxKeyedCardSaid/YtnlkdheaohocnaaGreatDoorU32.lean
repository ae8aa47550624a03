/- Whoever walks down with the secret signs what whoever walks down without it verifies, and the text of either walks the same way (StrongboxKeyed). No condition. -/
import Derived.Test.YtnlkdheaohocnaaGreatDoorU1
import Derived.Test.YtnlkdheaohocnaaGreatDoorU26
import Derived.Test.YtnlkdheaohocnaaGreatDoorU7
import Derived.Test.YtnlkdheaohocnaaGreatDoorU31
import Derived.Test.YtnlkdheaohocnaaGreatDoorU23
import Derived.Test.YtnlkdheaohocnaaGreatDoorU27
set_option maxRecDepth 1000000
set_option maxHeartbeats 16000000
set_option linter.unusedVariables false
set_option linter.unusedSimpArgs false
namespace Go.Proofs.YtnlkdheaohocnaaGreatDoor
open Go Go.RowKit Go.Shelf
structure MemO (w0 w:World) (L:List (Nat×TypeId×Array Value)) (v:Value) (xs:List UInt8):Prop where
 mem:Mem w0 w L
 ow:Ow w w0.heap.size 5 v (B8 xs)
 ne:∀x∈L,aY v≠some x.1
section
variable {w0 w w':World} {L:List (Nat×TypeId×Array Value)} {v:Value} {xs:List UInt8}
theorem MemO.ext (h:MemO w0 w L v xs) (hE:Ext w w'):MemO w0 w' L v xs:=⟨h.mem.ext hE,h.ow.below hE.below (adi _),h.ne⟩
theorem MemO.new (h:MemO w0 w L v xs) (t:TypeId) (cs:Array Value):MemO w0 (w.alloc (.cells cs t)) ((w.heap.size,t,cs)::L) v xs:=
 ⟨h.mem.new t cs,h.ow.alloc _,fun x hx=>by
  rcases List.mem_cons.1 hx with rfl|hx
  · intro e
    have:=(h.ow.row _ e).2;simp at this
  exact h.ne x hx⟩
theorem MemO.start (h:Mem w0 w L):MemO w0 (w.alloc (.cells #[] 5)) L (.slice (some ⟨w.heap.size,0,none⟩) 0 0) []:=
 ⟨h.below ((adl _ w).alloc (adi _) _),Ow.nil_ _ _ _ _,fun x _=>by simp[aY]⟩
theorem MemO.push {v':Value} {ys:List UInt8} (h:MemO w0 w L v xs) (hg:w.grownBy w' (aY v)) (ho:Ow w' w0.heap.size 5 v' (B8 ys)) (hr:aY v'=aY v∨aY v'=some w.heap.size):MemO w0 w' L v' ys:=
 ⟨⟨h.mem.hb.grown hg h.mem.hb.size (fun r e=>(h.ow.row r e).1),fun x hx=>by
  obtain⟨h1,h2⟩:=h.mem.rows x hx;exact⟨(hg.block x.1 (adg.1 h1).1 (Ne.symm (h.ne x hx))).trans h1,h2⟩,h.mem.ne⟩,ho,fun x hx=>by
  rcases hr with e|e
  · rw[e];exact h.ne x hx
  rw[e];have:=(adg.1 (h.mem.rows x hx).1).1;intro e2;injection e2 with e2;omega⟩
end
section
variable {P:Program} {ops:Array Oper} {Q:Exit→Act→World→Prop}
theorem I5 {C K:Act→World→Prop} {i:Nat} {a:Act} {w:World}:wpOp P ops (Exit.then C Q) i K a w=wpOp P ops Q i K a w:=rfl
def Cl (p:Nat×Nat):Nat×Nat:=(p.1,if p.2=0 then 0 else if p.2=1 then 1 else 2)
theorem oD {C:Act→World→Prop}:∀(p:List (Nat×Nat)) (a:Act) (w:World),aI P ops C (fun i K a w=>wpOp P ops Q i K a w) 0 p a w→aI P ops C (fun i K a w=>wpOp P ops Q i K a w) 0 (p.map Cl) a w
 |[],_,_,h=>h
 |(i,k)::rest,a,w,h=>by
  rw[List.map_cons]
  by_cases h0:k=0
  · subst h0
    simp only[aI,Cl,if_true] at h⊢;split at h
    · exact h.elim
    obtain⟨v,h1,h2⟩:=h;exact⟨v,h1,oD rest _ _ h2⟩
  by_cases h1:k=1
  · subst h1
    simp only[aI,Cl,if_true,if_false,Nat.one_ne_zero] at h⊢;split at h
    · exact h.elim
    obtain⟨v,h1,h2⟩:=h;exact⟨v,h1,oD rest _ _ h2⟩
  simp only[aI,Cl,if_neg h0,if_neg h1,show¬(2=0) by decide,show¬(2=1) by decide,if_false] at h⊢;exact wpOp_mono (fun a' w' h'=>⟨h'.1,oD rest _ _ h'.2⟩) h
variable {a:Act} {w:World} {l:List (Nat×Value)} {st:Nat→(Act→World→Prop)→Act→World→Prop}
theorem j8 {C:Act→World→Prop} (p':List (Nat×Nat)) {p:List (Nat×Nat)} (hp:p'.map Cl=p) (h:ai P ops C (fun i K a w=>wpOp P ops Q i K a w) a w p' l):ai P ops C (fun i K a w=>wpOp P ops Q i K a w) a w p l:=
 ⟨fun hl=>hp▸oD p' _ _ (h.run hl)⟩
theorem I6 {C:Act→World→Prop} {bV:List (Nat×Nat)} (h:ai P ops C (fun i K a w=>wpOp P ops Q i K a w) a w bV l):ai P ops ((Exit.then (aI P ops C (fun i K a w=>wpOp P ops Q i K a w) 0 bV) Q) .normal) st a w [] l:=⟨fun hl=>aB (h.run hl)⟩
theorem xM {C:Act→World→Prop} {i k:Nat} (hk:2≤k) (h:aI P ops ((Exit.then C Q) .normal) (fun i K a w=>wpOp P ops (Exit.then C Q) i K a w) 0 [(i,k)] a w):wpOp P ops Q i C a w:=by
 simp only[aI,if_neg (show¬k=0 by omega),if_neg (show¬k=1 by omega)] at h;rw[I5] at h;exact wpOp_mono (fun a' w' h'=>h'.2) h
theorem nO {Ci Cj:Act→World→Prop} {i j:Nat} (ki kj:Nat) (RO:2≤ki) (NJ:2≤kj)
 (h1:ai P ops ((Exit.then Ci Q) .normal) (fun i K a w=>wpOp P ops (Exit.then Ci Q) i K a w) a w [(i,ki)] l)
 (h2:ai P ops ((Exit.then Cj Q) .normal) (fun i K a w=>wpOp P ops (Exit.then Cj Q) i K a w) a w [(j,kj)] l):ai P ops (ve (fun i K a w=>wpOp P ops Q i K a w) i Ci j Cj) st a w [] l:=
 ⟨fun hl=>aB ⟨xM RO (h1.run hl),xM NJ (h2.run hl)⟩⟩
end
section
variable {ops:Array Oper} {Q:Exit→Act→World→Prop} {w0 w:World} {L:List (Nat×TypeId×Array Value)} {o:Oper} {a:Act} {i d:Nat} {rest:List (Nat×Nat)} {l:List (Nat×Value)} {v:Value} {xs:List UInt8}
theorem PH (hM:Mem w0 w L) (ho:ops[i]?=some o) (hg:o.guard.isNone=true) (hd:o.dst=some d) (aV:Nat.blt d a.tmps.size=true) (cK:o.op=.buildSlice 22 0 #[])
 (h:∀W g,MemO w0 W L (.slice (some ⟨g,0,none⟩) 0 0) []→ai Tryz.prog ops (Q .normal) (fun i K a w=>wpOp Tryz.prog ops Q i K a w) a W rest ((d,.slice (some ⟨g,0,none⟩) 0 0)::l)):ai Tryz.prog ops (Q .normal) (fun i K a w=>wpOp Tryz.prog ops Q i K a w) a w ((i,10)::rest) l:=by
 refine dt (by decide) ho hg fun hl=>?_
 have hE:=(h _ _ (MemO.start hM)).run (iK aV hl);obtain⟨b,hb⟩:=ae (aG a l);rw[←hb]
 have tS:aI Tryz.prog ops (Q .normal) (fun i K a w=>wpOp Tryz.prog ops Q i K a w) 0 rest (b.put o.dst (.slice (some ⟨w.heap.size,0,none⟩) 0 0)) (w.alloc (.cells #[] 5)):=by
  rw[hb,hd];exact hE
 unfold Oper.wp execOp;simp only[cK];clear hE h hM;go_simp;rw[hb,hd] at tS;exact tS
theorem Cm (hM:MemO w0 w L v xs) (ho:ops[i]?=some o) (hg:o.guard.isNone=true) (hd:o.dst=some d) (aV:Nat.blt d a.tmps.size=true) (x y:Operand) (cK:o.op=.call { callee:=.builtin .append,args:=#[x,y],argTypes:=#[22,22] })
 (h:∃(m N c B:Nat) (A:Option Addr) (ys:List UInt8),ev a l x=v∧ev a l y=.slice A m c∧ys.length=m∧Sl w B A (B8 ys)∧xs.length+m=N∧N≤100000∧
  ∀W A' c',MemO w0 W L (.slice A' N c') (xs++ys)→ai Tryz.prog ops (Q .normal) (fun i K a w=>wpOp Tryz.prog ops Q i K a w) a W rest ((d,.slice A' N c')::l)):
 ai Tryz.prog ops (Q .normal) (fun i K a w=>wpOp Tryz.prog ops Q i K a w) a w ((i,11)::rest) l:=by
 obtain⟨m,N,c,B,A,ys,h1,h2,h3,h4,h5,h6,h7⟩:=h;refine dt (by decide) ho hg fun hl=>?_
 refine b6 (m:=m) (c:=c) (base:=w0.heap.size) (xs:=B8 xs) (v:=v) (A:=A) (B:=B) (news:=B8 ys) lC x y cK ((bI hl x).trans h1) hM.ow ((bI hl y).trans h2) h4 (by rw[B8_length,h3]) (aR _) (by rw[B8_length];simp[maxLen];omega) (by rw[B8_length];omega) hM.mem.hb.size ?_;intro v3 w3 iW lV vC;rw[←bp] at iW;obtain⟨A3,c3,rfl,xD,ZJ⟩:=bw iW;have hN:(xs++ys).length=N:=by rw[adv,h3,h5]
 have Dg:=hM.push lV iW vC;rw[hN] at Dg⊢;rw[hd];exact(h7 _ _ _ Dg).run (iK aV hl)
theorem I7 (hM:MemO w0 w L v xs) {f:FuncId} {args:List Operand} {KF:Array TypeId} (ho:ops[i]?=some o) (hg:o.guard.isNone=true) (cK:o.op=.call { callee:=.value (.func f),args:=args.toArray,argTypes:=KF }) (hd:o.dst=some d)
 (h:∃fn N ys,Tryz.prog.funcs[f]?=some fn∧(fn.name== "runtime.NumGoroutine")=false∧fn.body.isSome=true∧Nat.blt d a.tmps.size=true∧(∀W,Ext w W→Calls Tryz.prog f (args.map (ev a l)).toArray W fun e W'=>∃v,e=.returned v∧Ow W' W.heap.size 5 v (B8 ys)∧Below W.heap.size W W')∧ys.length=N∧
  ∀W A c,MemO w0 W L v xs→Sl W W.heap.size A (B8 ys)→ai Tryz.prog ops (Q .normal) (fun i K a w=>wpOp Tryz.prog ops Q i K a w) a W rest ((d,.slice A N c)::l)):ai Tryz.prog ops (Q .normal) (fun i K a w=>wpOp Tryz.prog ops Q i K a w) a w ((i,12)::rest) l:=by
 obtain⟨fn,N,ys,h1,h2,h3,h4,h5,h6,h7⟩:=h;refine dt (by decide) ho hg fun hl=>?_
 unfold Oper.wp;rw[gQ cK h1 h2 h3 w,show args.map (aG a l).eval=args.map (ev a l) from List.map_congr_left (fun x _=>bI hl x)];refine Calls.mono (h5 w (Ext.refl w)) fun e w' he=>?_
 obtain⟨v2,rfl,oU,bS⟩:=he;obtain⟨A3,c3,rfl,xD,ZJ⟩:=bw oU;rw[h6] at oU⊢;show aI Tryz.prog ops _ _ 0 rest ((aG a l).put o.dst _) w';rw[hd];exact(h7 _ _ _ (hM.ext (av bS)) oU.sl).run (iK h4 hl)
theorem EG (hM:MemO w0 w L v xs) (ho:ops[i]?=some o) (hg:o.guard.isNone=true) (hd:o.dst=some d) (aV:Nat.blt d a.tmps.size=true) {t:TypeId} {cs:Array Value} (Oo:∀(ρ:Operand→Value) (W:World),(execOp ρ o).run Tryz.prog W=.ok (.value (.pointer (some ⟨W.heap.size,0,none⟩))) (W.alloc (.cells cs t)))
 (h:∀W g,MemO w0 W ((g,t,cs)::L) v xs→(∀B A zs,Sl w B A zs→Sl W W.heap.size A zs)→ai Tryz.prog ops (Q .normal) (fun i K a w=>wpOp Tryz.prog ops Q i K a w) a W rest ((d,.pointer (some ⟨g,0,none⟩))::l)):ai Tryz.prog ops (Q .normal) (fun i K a w=>wpOp Tryz.prog ops Q i K a w) a w ((i,6)::rest) l:=by
 refine dt (by decide) ho hg fun hl=>?_
 unfold Oper.wp;rw[Oo];show aI Tryz.prog ops _ _ 0 rest ((aG a l).put o.dst _) _;rw[hd];exact(h _ _ (hM.new t cs) (fun B A zs hs=>hs.ext (bq _ _))).run (iK aV hl)
end
end Go.Proofs.YtnlkdheaohocnaaGreatDoor
namespace Go.Proofs.YtnlkdheaohocnaaGreatDoor
open Go Go.RowKit Go.Shelf
def Cn (k:HKey) (il:List UInt8):Nat:=if k.priv then TS (k.data.drop 1) il else TU k.data il
def Co (k:HKey) (il:List UInt8):List UInt8:=if k.priv then 0::Q7 (k.data.drop 1) il else Q9 k.data il
theorem Ub (k:HKey) {n:Nat} (hn:n<2147483648):dz bF k n=bF k.chain (iE k++lG n):=by rw[dz,if_neg (by omega)]
theorem Gf (f:List UInt8) {k:HKey} (hg:k.good=true) {n:Nat} (hn:n<2147483648):
 dA bF f k n=if k.depth=255 then (2,aP) else if Cn k ((dz bF k n).take 32)=0 then (0,Et bF f k n (Co k ((dz bF k n).take 32))) else (7,aP):=by
 obtain⟨il,tg⟩:∃il,il=(dz bF k n).take 32:=⟨_,rfl⟩;unfold dA;rw[←tg,if_neg (by rw[hg];decide)]
 by_cases lI:k.depth=255
 · rw[if_pos lI,if_pos lI]
 rw[if_neg lI,if_neg lI,if_neg (fun h=>by omega),Cn,Co]
 by_cases hp:k.priv=true
 · rw[if_pos hp,if_pos hp,if_pos hp,Q7,TS,akS,BS]
   by_cases hb:ar≤bB il
   · rw[if_pos hb,if_pos hb,if_neg (by decide)]
   rw[if_neg hb,if_neg hb]
   by_cases hz:(bB (k.data.drop 1)+bB il)%ar=0
   · rw[if_pos hz,if_pos hz,if_neg (by decide)]
   rw[if_neg hz,if_neg hz,if_pos rfl,if_pos rfl]
 rw[if_neg hp,if_neg hp,if_neg hp,Q9,TU,Zb]
 by_cases hb:ar≤bB il
 · rw[if_pos hb,if_pos hb,if_neg (by decide)]
 rw[if_neg hb,if_neg hb]
 cases hP:cZ bM (fH k.data) (eC (bB il)) with
 |none=>rw[if_pos rfl,if_neg (by decide)]
 |some p=>simp
theorem Cp (dp:UInt8) (n:Nat) (cn:List UInt8) (KL:cn.length=32):Tryz.prog.built 30 [(0,.int .u8 (dp.toNat:Int)),(2,.int .u32 (n:Int)),(3,.agg (B8 cn).toArray)]=some (aW ⟨dp,[0,0,0,0],n,cn,List.replicate 33 0⟩).toArray:=by
 rw[qu];have e0:(aW aP).toArray=([]++([Value.int .u8 0]++(B8 aP.finger++([Value.int .u32 0]++(B8 aP.chain++B8 aP.data))))).toArray:=rfl;rw[e0,jE _ 0 _ _ [] [.int .u8 0] _ rfl rfl];rw[adj,←List.append_assoc,jE _ 2 _ _ _ [.int .u32 0] _ (by simp[Value.cells,aP]) rfl];rw[←List.append_assoc,jE _ 3 _ _ _ (B8 aP.chain) _ (by simp[Value.cells,aP]) (by simp[Value.cells,KL,aC.chain])];rw[Instr.fill];simp[Value.cells,aW,aP]
theorem kK {w:World} {g t:Nat} {k:HKey} (h:w.heap[g]?=some (.cells (aW k).toArray t (0,0))):w.cell? ⟨g,0,none⟩=some (.int .u8 (k.depth.toNat:Int)):=dL h rfl
theorem Cq {w:World} {g t:Nat} {k:HKey} (hk:k.Ok) (h:w.heap[g]?=some (.cells (aW k).toArray t (0,0))):Sl w w.heap.size (some ⟨g,6,none⟩) (B8 k.chain):=fun _=>⟨g,6,rfl,(adg.1 h).1,fun j hj=>by
 have h1:(B8 k.finger).length=4:=by rw[B8_length,hk.finger]
 have e:aW k=(.int .u8 (k.depth.toNat:Int)::(B8 k.finger++[.int .u32 (k.child:Int)]))++(B8 k.chain++B8 k.data):=by simp[aW]
 have hl:(Value.int .u8 (k.depth.toNat:Int)::(B8 k.finger++[Value.int .u32 (k.child:Int)])).length=6:=by simp only[adz,adv,h1,List.length_nil]
 rw[adn w g _ _ t (0,0) h,List.getElem?_toArray,e,adC (by rw[hl];omega),hl,Nat.add_sub_cancel_left,adG hj,adp hj]⟩
theorem MN {w:World} {g t:Nat} {h:List UInt8} (hl:h.length=64) (hr:w.heap[g]?=some (.cells (B8 h).toArray t (0,0))):w.rangeAt g 0 (B8 (h.take 32)).toArray.toList:=fun j v hv=>by
 rw[adn w g _ _ t (0,0) hr,List.getElem?_toArray,Nat.zero_add];have V0:(B8 (h.take 32))[j]?=some v:=hv;have hj:=(adE.1 V0).1;rw[B8_length,adq,hl] at hj;rw[jg,List.getElem?_take_of_lt (by omega)] at V0;exact V0
theorem MO {w:World} {g t:Nat} {h:List UInt8} (hr:w.heap[g]?=some (.cells (B8 h).toArray t (0,0))):w.rangeAt g 32 (B8 (h.drop 32)).toArray.toList:=fun j v hv=>by
 rw[adn w g _ _ t (0,0) hr,List.getElem?_toArray];have V0:(B8 (h.drop 32))[j]?=some v:=hv;rw[kU,List.getElem?_drop] at V0;exact V0
theorem Uc (F:Nat→Option Addr→Nat→Option Addr→Nat→Option Addr→Nat→Nat→World→Prop) {G:Prop} {T:Nat→Option Addr→Nat→Option Addr→Nat→Option Addr→Nat→Nat→World→Prop} (h2:(∀a b c d e f g h w,F a b c d e f g h w→T a b c d e f g h w)→G) (h1:∀a b c d e f g h w,F a b c d e f g h w→T a b c d e f g h w):G:=h2 h1
section
variable {ops:Array Oper} {o:Oper} {a:Act} {w:World} {R:Act→World→Prop} {st:Nat→(Act→World→Prop)→Act→World→Prop} {i d:Nat} {rest:List (Nat×Nat)} {l:List (Nat×Value)}
theorem PI (ho:ops[i]?=some o) (hg:o.guard=none) (hd:o.dst=some d) (aV:Nat.blt d a.tmps.size=true) (x:Operand) (cK:o.op=.sliceToArrayPointer 24 x) {A:Option Addr} {c:Nat} (hx:ev a l x=.slice A 32 c) (h:ai Tryz.prog ops R st a w rest ((d,.pointer A)::l)):ai Tryz.prog ops R st a w ((i,0)::rest) l:=
 cW ho hg hd aV _ (fun ρ hρ W=>by
  have e1:=(hρ x).trans hx;unfold execOp
  have e3:(Instr.arrayAt 24 (.slice A 32 c)).run Tryz.prog W=.ok (.pointer A) W:=by
   unfold Instr.arrayAt;simp[run_underlying Tryz.underlying24]
  simp only[cK,e1,Sem.run_bind,e3,Result.andThen_ok];rfl) h
theorem MP (ho:ops[i]?=some o) (hg:o.guard=none) (hd:o.dst=some d) (aV:Nat.blt d a.tmps.size=true) (x:Operand) (cK:o.op=.binOp .add 5 x (.const (.int .u8 1)) 5) {X:UInt8} (hx:ev a l x=.int .u8 (X.toNat:Int)) (hX:X≠255) (h:ai Tryz.prog ops R st a w rest ((d,.int .u8 ((X+1).toNat:Int))::l)):ai Tryz.prog ops R st a w ((i,0)::rest) l:=
 cW ho hg hd aV _ (fun ρ hρ W=>by
  have e1:=(hρ x).trans hx;have e2:ρ (.const (.int .u8 1))=.int .u8 1:=hρ _;have h1:X.toNat≠255:=fun e=>hX (UInt8.toNat_inj.1 e)
  have h2:=X.toNat_lt
  have h3:(X+1).toNat=X.toNat+1:=by
   rw[UInt8.toNat_add];show (X.toNat+1)%256=_;omega
  rw[h3];generalize X.toNat=m at e1 h1 h2⊢;unfold execOp;simp only[cK,e1,e2];go_simp;rw[IntKind.wrap_u8];omega) h
end
abbrev abD:Array Value:=(aW aP).toArray
theorem ZK {xs:List UInt8} (h:xs.length=20):(Tryz.prog.info? 112).map (·.size)=some (B8 xs).toArray.size:=by
 rw[List.size_toArray,B8_length,h];kernel_rfl
theorem I8 {o:Oper} (ho:o.op=.alloc 112) (ρ:Operand→Value) (W:World):(execOp ρ o).run Tryz.prog W=.ok (.value (.pointer (some ⟨W.heap.size,0,none⟩))) (W.alloc (.cells (B8 (z8 20)).toArray 112)):=by
 unfold execOp;rw[ho];go_simp;rfl
theorem MQ (g:Nat) (W:World):(Instr.sliceAt 112 (.pointer (some ⟨g,0,none⟩)) none none none).run Tryz.prog W=.ok (.slice (some ⟨g,0,none⟩) 20 20) W:=by go_simp
theorem MR (g:Nat) (W:World):(Instr.sliceAt 26 (.pointer (some ⟨g,0+1,none⟩)) none none none).run Tryz.prog W=.ok (.slice (some ⟨g,1,none⟩) 4 4) W:=by go_simp
theorem wI (d:UInt8) (n:Nat) (cn da f:List UInt8) (hf:f.length=4):(aW ⟨d,[0,0,0,0],n,cn,da⟩).take 1++B8 f++(aW ⟨d,[0,0,0,0],n,cn,da⟩).drop (1+(B8 f).length)=aW ⟨d,f,n,cn,da⟩:=by
 rw[B8_length,hf];simp[aW,B8]
theorem EH {k:HKey} (hk:k.Ok) (hd:k.data=List.replicate 33 0) (D:List UInt8) (hD:D.length=32):(aW k).take 39++B8 D++(aW k).drop (39+(B8 D).length)=aW { k with data:=0::D }:=by
 have h1:(B8 k.finger).length=4:=by rw[B8_length,hk.finger]
 have h2:(B8 k.chain).length=32:=by rw[B8_length,hk.chain]
 have e:aW k=(.int .u8 (k.depth.toNat:Int)::(B8 k.finger++ .int .u32 (k.child:Int)::(B8 k.chain++[.int .u8 0])))++B8 (List.replicate 32 0):=by simp[aW,hd,B8]
 have hl:(Value.int .u8 (k.depth.toNat:Int)::(B8 k.finger++ .int .u32 (k.child:Int)::(B8 k.chain++[.int .u8 0]))).length=39:=by simp only[adz,adv,h1,h2,List.length_nil]
 rw[B8_length,hD,e,List.take_left' hl,List.drop_of_length_le (by rw[adv,hl,B8_length];decide),List.append_nil];simp[aW,B8]
theorem EI (a b:List UInt8):(Q7 a b).length=32:=by
 unfold Q7;split
 · exact aN _ _
 rfl
theorem EJ (a b:List UInt8):(Q9 a b).length=33:=by
 unfold Q9;split
 · exact jY _
 rfl
theorem EK (B:List UInt8) (hB:B.length=33) (A:Option Addr) (W:World) (hs:Sl W W.heap.size A (B8 B)):Calls Tryz.prog 58 #[.slice A 33 33] W fun e W'=>(∃ys:List UInt8,ys.length=20∧e=.returned (.agg (B8 ys).toArray))∧Below W.heap.size W W':=by
 have:=Ce A 33 B W hs (by omega) (by omega) (by decide);rw[hB] at this;exact this
end Go.Proofs.YtnlkdheaohocnaaGreatDoor
namespace Go.Proofs.YtnlkdheaohocnaaGreatDoor
open Go Go.RowKit Go.Shelf
def vg (k:HKey) (n:Nat) (e:Ending):Prop:=∃f,f.length=4∧e=.returned (.tuple #[.agg (aW (dA bF f k n).2).toArray,.int .i64 ((dA bF f k n).1:Nat)])
theorem I9 (k:HKey) (hk:k.Ok) (hg:k.good=true) (n:Nat) (hn:n<2147483648) (w:World):Calls Tryz.prog 19 #[.agg (aW k).toArray,.int .u32 (n:Int)] w fun e W'=>vg k n e∧Below w.heap.size w W':=by
 have bx:Tryz.prog.follows .mixedOrders=true:=by kernel_rfl
 have HM:=ab (Mem.start w);have Hk:=ab hk;have Gc:=ab (fun W=>oB k hk hg W)
 by_cases lI:k.depth=255
 · have fT:∀f,dA bF f k n=(2,aP):=fun f=>by rw[Gf f hg hn,if_pos lI]
   have kO:=ab (iB hk)
   have Hc0:Hid (∀(W:World) (g t:Nat),W.heap[g]?=some (.cells (aW k).toArray t (0,0))→W.cell? ⟨g,0,none⟩=some (.int .u8 255)):=ab fun W g t h=>by
    have:=kK h;rw[lI] at this;exact this
   obtain⟨B,hB⟩:=ae (iE k);rw[←hB] at Gc kO;have oW:=ab fT;clear fT hk hg lI hB;go_enter Tryz.func19,Tryz.ntmps19;go_upto_region 2 with (first|(show wpList _ _ _ (⟨some 2,_,_,_,_,_⟩::_) _ _;refine ag 0 [(0,5),(1,6),(2,0)] rfl (by kernel_rfl) ?_)|(show wpList _ _ _ (⟨some 15,_,_,_,_,_⟩::_) _ _;refine ag 0 [(0,1),(1,4),(2,0),(3,0),(4,0),(5,6),(6,3),(7,0)] rfl (by kernel_rfl) ?_)|(show ai _ _ _ _ _ _ ((_,5)::_) _;refine bh HM.out rfl rfl _ _ rfl rfl (by kernel_rfl) rfl ?_;intro W gN af;replace HM:=ab af;clear af)|(show ai _ _ _ _ _ _ ((_,6)::_) _;refine aq HM.out rfl rfl rfl (by kernel_rfl) (gw rfl) ?_;intro W gN af;replace HM:=ab af;clear af)|(show ai _ _ _ _ _ _ ((_,6)::_) _;refine aq HM.out rfl rfl rfl (by kernel_rfl) (bL rfl) ?_;intro W gN af;replace HM:=ab af;clear af)|(show ai _ _ _ _ _ _ ((_,0)::_) _;refine aj rfl rfl rfl (by kernel_rfl) _ (.inr rfl) (v:=.int _ _) rfl ?_)|(show ai _ _ _ _ _ _ ((_,0)::_) _;refine aj rfl rfl rfl (by kernel_rfl) _ (.inl rfl) (v:=.tuple _) rfl ?_)|(show ai _ _ _ _ _ _ ((_,0)::_) _;refine aZ rfl rfl rfl (by kernel_rfl) _ _ rfl rfl rfl ?_)|(show ai _ _ _ _ _ _ ((_,1)::_) _;refine az rfl rfl rfl (by kernel_rfl) 30 _ rfl rfl Tryz.underlying30 rfl (t:=30) (by first|exact HM.out.at_ 1 rfl) (aT Hk.out) ?_)|((first|(show ai _ _ _ _ _ _ ((_,4)::_) _;refine aw (f:=11) HM.out rfl rfl rfl rfl ?_));refine⟨_,_,Tryz.func11,by kernel_rfl,by kernel_rfl,by kernel_rfl,fun W hW=>Gc.out _,?_⟩;try (intro W af;replace HM:=ab af;clear af))|(show ai _ _ _ _ _ _ ((_,3)::_) _;refine an HM.out 28 _ _ rfl rfl ?_;(first|(refine⟨0,_,_,_,_,rfl,rfl,rfl,rfl,rfl,(fF kO.out),(cS (by rw[kO.out];rfl)),(bK _),?_⟩));intro W af;simp only[adj,adh,List.set_cons_zero,List.set_cons_succ] at af;replace HM:=ab af;clear af)|(show ai _ _ _ _ _ _ [] _;refine ay (fun K hK=>?_);simp only[aG];go_simp;refine hK _ ?_;clear hK K));have c0:=Hc0.out _ _ _ (HM.out.at_ 2 rfl);go_wp2_with (first|(show wpList _ _ _ (⟨some 28,_,_,_,_,_⟩::_) _ _;refine ag 0 [(0,0),(1,3),(2,0)] rfl (by kernel_rfl) ?_)|(show ai _ _ _ _ _ _ ((_,0)::_) _;refine aj rfl rfl rfl (by kernel_rfl) _ (.inr rfl) (v:=.int _ _) rfl ?_)|(show ai _ _ _ _ _ _ ((_,0)::_) _;refine aM rfl rfl rfl (by kernel_rfl) 30 _ rfl kI rfl ?_)|(show ai _ _ _ _ _ _ ((_,3)::_) _;refine an HM.out 30 _ _ rfl rfl ?_;(first|(refine⟨1,_,_,_,_,rfl,rfl,rfl,rfl,rfl,(aT aC),(bt aC aC),(bf _),?_⟩));intro W af;simp only[adj,adh,List.set_cons_zero,List.set_cons_succ] at af;replace HM:=ab af;clear af)|(show ai _ _ _ _ _ _ [] _;refine ay (fun K hK=>?_);simp only[aG];go_simp;refine hK _ ?_;clear hK K));refine adm (aA rfl _ _ _ _ _ (0,0) _ rfl (HM.out.at_ 1 rfl) _ rfl Tryz.underlying30 rfl (aT aC)) rfl ?_;refine⟨⟨[0,0,0,0],rfl,?_⟩,HM.out.hb⟩;rw[oW.out];rfl
 have kO:=ab (iB hk);have Hch:=ab hk.chain;obtain⟨h,hh⟩:=ae (dz bF k n);have ZL:h=bF k.chain (iE k++lG n):=by rw[hh,Ub k hn]
 have hl:h.length=64:=by rw[ZL,dK]
 have oW:Hid (∀f,dA bF f k n=if Cn k (h.take 32)=0 then (0,⟨k.depth+1,f,n,h.drop 32,Co k (h.take 32)⟩) else (7,aP)):=ab fun f=>by rw[Gf f hg hn,if_neg lI,←hh,Et,←hh]
 have HF:=ab (fun W=>uM n (by omega) W);obtain⟨f4,hf4⟩:=ae (lG n);have Hf4:Hid (f4.length=4):=ab (by rw[hf4];rfl);rw[←hf4] at HF ZL;obtain⟨B,hB⟩:=ae (iE k);rw[←hB] at Gc kO ZL
 have Hhm:Hid (∀(A1 A2:Option Addr) (c1 c2:Nat) (W:World),Sl W W.heap.size A1 (B8 k.chain)→Sl W W.heap.size A2 (B8 (B++f4))→Calls Tryz.prog 15 #[.slice A1 32 c1,.slice A2 37 c2] W fun e W'=>e=.returned (.agg (B8 h).toArray)∧Below W.heap.size W W'):=ab fun A1 A2 c1 c2 W h1 h2=>by
  have qP:(B++f4).length=37:=by rw[adv,kO.out,Hf4.out]
  have:=B9 A1 A2 c1 c2 k.chain (B++f4) (by rw[Hch.out];decide) (by omega) (by omega) W h1 h2;rw[Hch.out,qP,←ZL] at this;exact this
 have HSc:Hid (∀(W:World) (g t:Nat),W.heap[g]?=some (.cells (aW k).toArray t (0,0))→Sl W W.heap.size (some ⟨g,6,none⟩) (B8 k.chain)):=ab fun W g t h=>Cq hk h
 have Hc0:Hid (∀(W:World) (g t:Nat),W.heap[g]?=some (.cells (aW k).toArray t (0,0))→W.cell? ⟨g,0,none⟩=some (.int .u8 (k.depth.toNat:Int))):=ab fun W g t h=>kK h
 have Hl:=ab hl;have Hd:=ab lI;have hdn:k.depth.toNat≠255:=fun e=>lI (UInt8.toNat_inj.1 e)
 have hd8:=k.depth.toNat_lt;have Gg:=ab hg;clear hk hg lI hh ZL hl hf4 hB;obtain⟨dn,Ud⟩:=ae k.depth.toNat;have Hdn:=ab Ud;rw[←Ud] at hdn hd8 Hc0;clear Ud;go_enter Tryz.func19,Tryz.ntmps19;go_upto_region 2 with (first|(show wpList _ _ _ (⟨some 2,_,_,_,_,_⟩::_) _ _;refine ag 0 [(0,5),(1,6),(2,0)] rfl (by kernel_rfl) ?_)|(show wpList _ _ _ (⟨some 15,_,_,_,_,_⟩::_) _ _;refine ag 0 [(0,1),(1,4),(2,0),(3,0),(4,0),(5,6),(6,3),(7,0)] rfl (by kernel_rfl) ?_)|(show ai _ _ _ _ _ _ ((_,5)::_) _;refine bh HM.out rfl rfl _ _ rfl rfl (by kernel_rfl) rfl ?_;intro W gN af;replace HM:=ab af;clear af)|(show ai _ _ _ _ _ _ ((_,6)::_) _;refine aq HM.out rfl rfl rfl (by kernel_rfl) (gw rfl) ?_;intro W gN af;replace HM:=ab af;clear af)|(show ai _ _ _ _ _ _ ((_,6)::_) _;refine aq HM.out rfl rfl rfl (by kernel_rfl) (bL rfl) ?_;intro W gN af;replace HM:=ab af;clear af)|(show ai _ _ _ _ _ _ ((_,0)::_) _;refine aj rfl rfl rfl (by kernel_rfl) _ (.inr rfl) (v:=.int _ _) rfl ?_)|(show ai _ _ _ _ _ _ ((_,0)::_) _;refine aj rfl rfl rfl (by kernel_rfl) _ (.inl rfl) (v:=.tuple _) rfl ?_)|(show ai _ _ _ _ _ _ ((_,0)::_) _;refine aZ rfl rfl rfl (by kernel_rfl) _ _ rfl rfl rfl ?_)|(show ai _ _ _ _ _ _ ((_,1)::_) _;refine az rfl rfl rfl (by kernel_rfl) 30 _ rfl rfl Tryz.underlying30 rfl (t:=30) (by first|exact HM.out.at_ 1 rfl) (aT Hk.out) ?_)|((first|(show ai _ _ _ _ _ _ ((_,4)::_) _;refine aw (f:=11) HM.out rfl rfl rfl rfl ?_));refine⟨_,_,Tryz.func11,by kernel_rfl,by kernel_rfl,by kernel_rfl,fun W hW=>Gc.out _,?_⟩;try (intro W af;replace HM:=ab af;clear af))|(show ai _ _ _ _ _ _ ((_,3)::_) _;refine an HM.out 28 _ _ rfl rfl ?_;(first|(refine⟨0,_,_,_,_,rfl,rfl,rfl,rfl,rfl,(fF kO.out),(cS (by rw[kO.out];rfl)),(bK _),?_⟩));intro W af;simp only[adj,adh,List.set_cons_zero,List.set_cons_succ] at af;replace HM:=ab af;clear af)|(show ai _ _ _ _ _ _ [] _;refine ay (fun K hK=>?_);simp only[aG];go_simp;refine hK _ ?_;clear hK K));have c0:=Hc0.out _ _ _ (HM.out.at_ 2 rfl);go_upto_region 6 with fail;have hdc:decide ((2147483648:Int)≤(n:Int))=false:=adI (by omega);go_upto_region 11 with fail;clear c0;rename_i gK _ gR _ _ _ _ _;obtain⟨gP,hgP⟩:∃g,g=gN:=⟨_,rfl⟩;rw[←hgP] at HM;simp only[←hgP];clear hgP;apply Uc (fun _ _ _ _ _ _ _ gH W=>Hid (Mem w W [(gH,45,(B8 h).toArray),(gP,28,(B8 B).toArray),(gR,30,(aW aP).toArray),(gK,30,(aW k).toArray)]))
 · intro hT
   refine s8 _ _ bx (by kernel_rfl) (by intro c a d v w h;cases d<;>exact h) (fun hQ=>ez (aJ _ hQ) (by kernel_rfl) 7 [(0,0),(1,0),(3,0),(5,0)] _ (by kernel_rfl) (mg (aJ _ hQ) 2 9 6 _ (by kernel_rfl) (ez (aJ _ hQ) (by kernel_rfl) 6 [] _ (by kernel_rfl) (mg (aJ _ hQ) 4 9 5 _ (by kernel_rfl) (ez (aJ _ hQ) (by kernel_rfl) 5 [] _ (by kernel_rfl) (mg (aJ _ hQ) 6 9 4 _ (by kernel_rfl) (ez (aJ _ hQ) (by kernel_rfl) 4 [] _ (by kernel_rfl) (mg (aJ _ hQ) 7 9 3 _ (by kernel_rfl) (ez (aJ _ hQ) (by kernel_rfl) 3 [] _ (by kernel_rfl) (mg (aJ _ hQ) 8 9 2 _ (by kernel_rfl) (ez (aJ _ hQ) (by kernel_rfl) 0 [(9,2),(10,2)] _ (by kernel_rfl) (j7 _ (by kernel_rfl))) (ez (aJ _ hQ) (by kernel_rfl) 0 [(8,2),(10,2)] _ (by kernel_rfl) (j7 _ (by kernel_rfl))))) (ez (aJ _ hQ) (by kernel_rfl) 0 [(7,2),(8,2),(10,2)] _ (by kernel_rfl) (j7 _ (by kernel_rfl))))) (ez (aJ _ hQ) (by kernel_rfl) 0 [(6,2),(7,2),(8,2),(10,2)] _ (by kernel_rfl) (j7 _ (by kernel_rfl))))) (ez (aJ _ hQ) (by kernel_rfl) 0 [(4,2),(6,2),(7,2),(8,2),(10,2)] _ (by kernel_rfl) (j7 _ (by kernel_rfl))))) (ez (aJ _ hQ) (by kernel_rfl) 0 [(2,2),(4,2),(6,2),(7,2),(8,2),(10,2)] _ (by kernel_rfl) (j7 _ (by kernel_rfl))))) ?_;refine aH ?_;have iT:=HM.out.drew;replace HM:=ab iT;clear iT
   repeat' (first|(show ai _ _ _ _ _ _ ((_,0)::_) _;refine bd rfl rfl rfl (by kernel_rfl) 30 _ 3 rfl rfl Cb ?_)|(show ai _ _ _ _ _ _ ((_,0)::_) _;refine aj rfl rfl rfl (by kernel_rfl) _ (.inl rfl) (v:=.slice _ _ _) rfl ?_)|(show ai _ _ _ _ _ _ ((_,0)::_) _;refine aj rfl rfl rfl (by kernel_rfl) _ (.inl rfl) (v:=.int _ _) rfl ?_)|(show ai _ _ _ _ _ _ ((1,0)::_) _;refine db rfl rfl rfl (by kernel_rfl) _ _ _ _ rfl (Cg _) ?_)|(show ai _ _ _ _ _ _ ((2,10)::_) _;refine PH HM.out rfl rfl rfl (by kernel_rfl) rfl ?_;intro W g45 af;replace HM:=ab af;clear af)|(show ai _ _ _ _ _ _ ((4,11)::_) _;refine Cm HM.out rfl rfl rfl (by kernel_rfl) _ _ rfl ⟨33,33,_,_,_,B,rfl,rfl,kO.out,(by first|exact fE (HM.out.mem.at_ 0 rfl)|exact fE (HM.out.mem.at_ 1 rfl)),rfl,(by decide),?_⟩;intro W A47 c47 af;replace HM:=ab af;clear af)|(show ai _ _ _ _ _ _ ((6,12)::_) _;refine I7 (f:=23) HM.out rfl rfl rfl rfl ⟨_,4,f4,Tryz.func23,by kernel_rfl,by kernel_rfl,by kernel_rfl,fun W hW=>HF.out W,Hf4.out,?_⟩;intro W A49 c49 af Ue;replace HM:=ab af;have HS:=ab Ue;clear af Ue)|(show ai _ _ _ _ _ _ ((7,11)::_) _;refine Cm HM.out rfl rfl rfl (by kernel_rfl) _ _ rfl ⟨4,37,_,_,_,f4,rfl,rfl,Hf4.out,(by first|exact HS.out|exact HX.out _ _ _ HS.out),(by show B.length+4=37;rw[kO.out]),(by decide),?_⟩;intro W A50 c50 af;replace HM:=ab af;clear af)|(show ai _ _ _ _ _ _ ((8,4)::_) _;refine aw (f:=15) HM.out.mem rfl rfl rfl rfl ⟨_,_,Tryz.func15,by kernel_rfl,by kernel_rfl,by kernel_rfl,fun W hW=>Hhm.out _ _ _ _ _ (by first|exact HSc.out _ _ _ ((HM.out.mem.ext hW).at_ 2 rfl)|exact HSc.out _ _ _ ((HM.out.mem.ext hW).at_ 3 rfl)) (HM.out.ow.sl.ext hW),?_⟩;intro W af;replace HM:=ab af;clear af)|(show ai _ _ _ _ _ _ ((_,6)::_) _;refine aq HM.out rfl rfl rfl (by kernel_rfl) (ey rfl) ?_;intro W gN af;replace HM:=ab af;clear af)|(show ai _ _ _ _ _ _ ((_,6)::_) _;refine EG HM.out rfl rfl rfl (by kernel_rfl) (ey rfl) ?_;intro W gN af HX1;replace HM:=ab af;have HX:=ab HX1;clear af HX1)|(show ai _ _ _ _ _ _ ((10,3)::_) _;refine an HM.out 45 _ _ rfl rfl ⟨0,_,_,_,_,rfl,rfl,rfl,rfl,rfl,(fS Hl.out),(cS (by rw[Hl.out];rfl)),(bK _),?_⟩;intro W af;replace HM:=ab af;clear af)|(refine I6 ?_)|(show ai _ _ (ve _ 2 _ _ _) _ _ _ [] _;refine nO 10 6 (by decide) (by decide) ?_ ?_)|(show ai _ _ (ve _ 4 _ _ _) _ _ _ [] _;refine nO 11 6 (by decide) (by decide) ?_ ?_)|(show ai _ _ (ve _ 6 _ _ _) _ _ _ [] _;refine nO 12 6 (by decide) (by decide) ?_ ?_)|(show ai _ _ (ve _ 7 _ _ _) _ _ _ [] _;refine nO 11 6 (by decide) (by decide) ?_ ?_)|(show ai _ _ (ve _ 8 _ _ _) _ _ _ [] _;refine nO 4 6 (by decide) (by decide) ?_ ?_)|(show ai _ _ _ _ _ _ ((9,2)::_) _;refine j8 [(9,6),(10,3)] rfl ?_)|(show ai _ _ _ _ _ _ ((8,2)::_) _;refine j8 [(8,4),(10,3)] rfl ?_)|(show ai _ _ _ _ _ _ ((7,2)::_) _;refine j8 [(7,11),(8,4),(10,3)] rfl ?_)|(show ai _ _ _ _ _ _ ((6,2)::_) _;refine j8 [(6,12),(7,11),(8,4),(10,3)] rfl ?_)|(show ai _ _ _ _ _ _ ((4,2)::_) _;refine j8 [(4,11),(6,12),(7,11),(8,4),(10,3)] rfl ?_)|(show ai _ _ _ _ _ _ ((2,2)::_) _;refine j8 [(2,10),(4,11),(6,12),(7,11),(8,4),(10,3)] rfl ?_))
   all_goals (refine ay (fun K hK=>?_);simp only[aG];go_simp;refine hK _ ?_;clear hK K)
   all_goals exact hT g45 A47 c47 A49 c49 A50 c50 _ _ HM
 rintro g45 A47 c47 A49 c49 A50 c50 gH W HM;obtain⟨il,tg⟩:=ae (h.take 32);obtain⟨cc,Qn⟩:=ae (h.drop 32);have Uf:Hid (∀(W:World) (g t:Nat),W.heap[g]?=some (.cells (B8 h).toArray t (0,0))→W.rangeAt g 0 (B8 il).toArray.toList):=ab fun W g t hr=>by rw[tg];exact MN Hl.out hr
 have Ug:Hid (∀(W:World) (g t:Nat),W.heap[g]?=some (.cells (B8 h).toArray t (0,0))→W.rangeAt g 32 (B8 cc).toArray.toList):=ab fun W g t hr=>by rw[Qn];exact MO hr
 have Uh:Hid (il.length=32):=ab (by rw[tg,adq,Hl.out];rfl);have Hcc:Hid (cc.length=32):=ab (by rw[Qn,adH,Hl.out]);rw[←tg,←Qn] at oW;clear tg Qn HF Hhm HSc Gc;have NK:=ab (Cp (k.depth+1) n cc Hcc.out);have V1:Hid (HKey.Ok ⟨k.depth+1,[0,0,0,0],n,cc,List.replicate 33 0⟩):=ab ⟨rfl,Hcc.out,List.length_replicate ..,by show n<_;omega⟩;obtain⟨k1,ko⟩:∃k1:HKey,k1=⟨k.depth+1,[0,0,0,0],n,cc,List.replicate 33 0⟩:=⟨_,rfl⟩;rw[←ko] at NK V1;go_upto_region 14 with (first|(show wpList _ _ _ (⟨some 52,_,_,_,_,_⟩::_) _ _;refine ag 0 [(0,0),(1,0),(2,1),(3,6),(4,3)] rfl (by kernel_rfl) ?_)|(show Code.wp _ (Code.region 13 _ _) _ _ _;refine aQ [(0,0),(1,1),(2,0),(3,0),(4,0),(5,0),(6,1),(7,0)] [(8,30,abD)] [(9,3)] bx (by kernel_rfl) (by intro c a d v w h;cases d<;>exact h) ⟨⟨_,rfl,bL rfl⟩,trivial⟩ (aH ?_);replace HM:=ab HM.out.drew)|(show ai _ _ _ _ _ _ ((_,6)::_) _;refine aq HM.out rfl rfl rfl (by kernel_rfl) (fG rfl) ?_;intro W gN af;replace HM:=ab af;clear af)|(show ai _ _ _ _ _ _ ((_,0)::_) _;refine bd rfl rfl rfl (by kernel_rfl) 30 _ 0 rfl rfl MD ?_)|(show ai _ _ _ _ _ _ ((_,0)::_) _;refine aj rfl rfl rfl (by kernel_rfl) _ (.inl rfl) (v:=.int _ _) rfl ?_)|(show ai _ _ _ _ _ _ ((_,0)::_) _;refine db rfl rfl rfl (by kernel_rfl) _ _ _ _ rfl (Ch _) ?_)|(show ai _ _ _ _ _ _ ((_,0)::_) _;refine db rfl rfl rfl (by kernel_rfl) _ _ _ _ rfl (Ck _) ?_)|(show ai _ _ _ _ _ _ ((_,0)::_) _;refine PI rfl rfl rfl (by kernel_rfl) _ rfl rfl ?_)|(show ai _ _ _ _ _ _ ((_,0)::_) _;refine MP rfl rfl rfl (by kernel_rfl) _ rfl rfl Hd.out ?_)|(show ai _ _ _ _ _ _ ((_,1)::_) _;refine fK 5 rfl rfl rfl (by kernel_rfl) _ rfl rfl Tryz.underlying5 (kK (HM.out.at_ 4 rfl)) ?_)|(show ai _ _ _ _ _ _ ((2,1)::_) _;refine bJ rfl rfl rfl (by kernel_rfl) 24 _ rfl rfl Tryz.underlying24 rfl (dX Uh.out) (Uf.out _ _ _ (HM.out.at_ 0 rfl)) ?_)|(show ai _ _ _ _ _ _ ((6,1)::_) _;refine bJ rfl rfl rfl (by kernel_rfl) 24 _ rfl rfl Tryz.underlying24 rfl (dX Hcc.out) (Ug.out _ _ _ (HM.out.at_ 1 rfl)) ?_)|(show ai _ _ _ _ _ _ ((_,0)::_) _;refine aM rfl rfl rfl (by kernel_rfl) 30 _ rfl NK.out rfl ?_)|(show ai _ _ _ _ _ _ ((4,3)::_) _;refine an HM.out 24 _ _ rfl rfl ⟨0,_,_,_,_,rfl,rfl,rfl,rfl,rfl,(dX Uh.out),(cS (by rw[Uh.out];rfl)),(bK _),?_⟩;intro W af;replace HM:=ab af;clear af)|(show ai _ _ _ _ _ _ ((9,3)::_) _;refine an HM.out 30 _ _ rfl rfl ⟨0,_,_,_,_,rfl,rfl,rfl,rfl,rfl,(aT V1.out),(bt aC V1.out),(bf _),?_⟩;intro W af;replace HM:=ab af;clear af)|(show ai _ _ _ _ _ _ [] _;refine bj ?_)|(show cu _ _ _ _ _ _ (_::_) _ _;refine cL rfl (by kernel_rfl) ?_;intro gN)|(show cu _ _ _ _ _ _ [] _ _;refine bm HM.out ?_;intro W af;simp only[adj,adh,List.set_cons_zero,List.set_cons_succ] at af;replace HM:=ab af;clear af)|(show ai _ _ _ _ _ _ [] _;refine ay (fun K hK=>?_);simp only[aG];go_simp;refine hK _ ?_;clear hK K));have FC:=ab (fun (W:World) (A:Option Addr) (hs:Sl W W.heap.size A (B8 B))=>EK B kO.out A W hs);go_wp2_with fail;refine(FC.out _ _ (fE (HM.out.at_ 3 rfl))).mono ?_;rintro e W1 ⟨⟨ys,pq,rfl⟩,bH⟩;have af:=HM.out.below bH;replace HM:=ab af;have QW:=ab pq;have Hy4:Hid ((B8 (ys.take 4)).length=4):=ab (by rw[B8_length,adq,pq];rfl);have Ja:=ab (wI (k.depth+1) n cc (List.replicate 33 0) (ys.take 4) (by rw[adq,pq];rfl));have Gd:Hid (HKey.Ok ⟨k.depth+1,ys.take 4,n,cc,List.replicate 33 0⟩):=ab ⟨by show (ys.take 4).length=4;rw[adq,pq];rfl,Hcc.out,List.length_replicate ..,by show n<_;omega⟩;have wJ:=ab (oW.out (ys.take 4));have zV:Hid ((ys.take 4).length=4):=ab (by rw[adq,pq];rfl);have abE:Hid ((aW k1).length=71):=ab (bO V1.out);rw[←ko] at Ja;clear af bH pq oW ko FC;obtain⟨fg,Dh⟩:=ae (ys.take 4);rw[←Dh] at Ja Gd wJ zV Hy4
 have Zm:Hid (∀(W:World) (g t:Nat),W.heap[g]?=some (.cells (B8 ys).toArray t (0,0))→Sl W W.heap.size (some ⟨g,0,none⟩) (B8 fg)):=ab fun W g t hr=>by
  rw[Dh,jg];exact Sl.take (fE hr) 4
 clear Dh;obtain⟨k2,pJ⟩:∃k2:HKey,k2=⟨k.depth+1,fg,n,cc,List.replicate 33 0⟩:=⟨_,rfl⟩;rw[←pJ] at Ja Gd;go_upto_region 16 with (first|(show wpList _ _ _ (⟨some 12,_,_,_,_,_⟩::_) _ _;refine ag 2 [(2,6),(3,3)] rfl (by kernel_rfl) ?_)|(show Code.wp _ (Code.region 15 _ _) _ _ _;refine aQ [(0,0),(1,0),(2,0)] [] [(3,8)] bx (by kernel_rfl) (by intro c a d v w h;cases d<;>exact h) trivial (aH ?_);replace HM:=ab HM.out.drew)|(show ai _ _ _ _ _ _ ((_,6)::_) _;refine aq HM.out rfl rfl rfl (by kernel_rfl) (I8 rfl) ?_;intro W gN af;replace HM:=ab af;clear af)|(show ai _ _ _ _ _ _ ((_,0)::_) _;refine bd rfl rfl rfl (by kernel_rfl) 30 _ 1 rfl rfl ME ?_)|(show ai _ _ _ _ _ _ ((_,0)::_) _;refine ca rfl rfl rfl (by kernel_rfl) _ _ rfl rfl MQ ?_)|(show ai _ _ _ _ _ _ ((_,0)::_) _;refine db rfl rfl rfl (by kernel_rfl) _ _ _ _ rfl (MR _) ?_)|(show ai _ _ _ _ _ _ ((3,3)::_) _;refine an HM.out 112 _ _ rfl rfl ⟨0,_,_,_,_,rfl,rfl,rfl,rfl,rfl,(ZK QW.out),(cS (by rw[QW.out];rfl)),(bK _),?_⟩;intro W af;replace HM:=ab af;clear af)|(show ai _ _ _ _ _ _ ((_,8)::_) _;refine j3 HM.out rfl rfl rfl (by kernel_rfl) lC _ _ rfl ⟨1,_,_,_,_,_,_,_,_,_,_,_,rfl,rfl,rfl,Hy4.out,(Zm.out _ _ _ (HM.out.at_ 0 rfl)),(by rw[Hy4.out,List.size_toArray,abE.out];decide),(aR _),?_⟩;intro W af;rw[Ja.out] at af;replace HM:=ab af;clear af)|(show ai _ _ _ _ _ _ [] _;refine bj ?_)|(show cu _ _ _ _ _ _ [] _ _;refine bm HM.out ?_;intro W af;simp only[adj,adh,List.set_cons_zero,List.set_cons_succ] at af;replace HM:=ab af;clear af)|(show ai _ _ _ _ _ _ [] _;refine ay (fun K hK=>?_);simp only[aG];go_simp;refine hK _ ?_;clear hK K));have y7:=fun W=>iA k Hk.out W
 have Hz:Hid (k2.data=List.replicate 33 0):=ab (by rw[pJ]);have ZM:Hid ((aW k2).length=71):=ab (bO Gd.out)
 cases hp:k.priv with
 |true=>
  have ga:dE (k.data.drop 1)=true:=by
   have h:=Gg.out;rw[HKey.good,if_pos hp] at h;exact h
  rw[Cn,Co,if_pos hp,if_pos hp] at wJ;rw[hp] at y7;have yR:=ab y7;have vF:=ab (fun W=>mN k Hk.out W);have Ui:(k.data.drop 1).length=32:=by rw[adH,Hk.out.data]
  have V4:=ab (fun W=>Pu (k.data.drop 1) il Ui Uh.out ga W);have qU:=ab (EI (k.data.drop 1) il);obtain⟨E,hE⟩:=ae (TS (k.data.drop 1) il);obtain⟨D,hD⟩:=ae (Q7 (k.data.drop 1) il);obtain⟨sec,wK⟩:=ae (k.data.drop 1);rw[←hE,←hD] at V4;rw[←hD] at qU;rw[←hE,←hD] at wJ;rw[←wK] at V4 vF;have ZN:=ab (EH Gd.out Hz.out D qU.out);have MS:=ab (tB Gd.out (d:=0::D) (by rw[adz,qU.out]));obtain⟨k3,JW⟩:∃k3:HKey,k3={ k2 with data:=0::D }:=⟨_,rfl⟩;rw[←JW] at ZN MS;have ze:Hid (dA bF fg k n=if E=0 then (0,k3) else (7,aP)):=ab (by rw[wJ.out,JW,pJ]);have HDb:Hid ((B8 D).length=32):=ab (by rw[B8_length];exact qU.out);have acT:=ab Ui;clear hp ga Ui y7 hE hD wK JW pJ wJ Gg Ja Uf Ug Zm NK Hz;go_upto_region 21 with (first|(show wpList _ _ _ (⟨some 69,_,_,_,_,_⟩::_) _ _;refine ag 0 [(0,1),(1,4)] rfl (by kernel_rfl) ?_)|(show wpList _ _ _ (⟨some 13,_,_,_,_,_⟩::_) _ _;refine ag 0 [(0,6)] rfl (by kernel_rfl) ?_)|(show Code.wp _ (Code.region 18 _ _) _ _ _;refine aQ [(0,1),(1,2),(2,1),(3,2),(4,0),(5,0),(6,0)] [] [(7,3),(8,7)] bx (by kernel_rfl) (by intro c a d v w h;cases d<;>exact h) trivial (aH ?_);replace HM:=ab HM.out.drew)|(show Code.wp _ (Code.region 19 _ _) _ _ _;refine aQ [(0,0),(1,0),(2,0)] [] [(3,8)] bx (by kernel_rfl) (by intro c a d v w h;cases d<;>exact h) trivial (aH ?_);replace HM:=ab HM.out.drew)|(show ai _ _ _ _ _ _ ((_,6)::_) _;refine aq HM.out rfl rfl rfl (by kernel_rfl) (fG rfl) ?_;intro W gN af;replace HM:=ab af;clear af)|(show ai _ _ _ _ _ _ ((_,1)::_) _;refine az rfl rfl rfl (by kernel_rfl) 30 _ rfl rfl Tryz.underlying30 rfl (t:=30) (by first|exact HM.out.at_ 6 rfl|exact HM.out.at_ 7 rfl) (aT Hk.out) ?_)|(show ai _ _ _ _ _ _ ((_,1)::_) _;refine az rfl rfl rfl (by kernel_rfl) 24 _ rfl rfl Tryz.underlying24 rfl (t:=24) (by first|exact HM.out.at_ 3 rfl) (dX Uh.out) ?_)|((first|(show ai _ _ _ _ _ _ ((_,4)::_) _;refine aw (f:=22) HM.out rfl rfl rfl rfl ?_));refine⟨_,_,Tryz.func22,by kernel_rfl,by kernel_rfl,by kernel_rfl,fun W hW=>yR.out _,?_⟩;try (intro W af;replace HM:=ab af;clear af))|((first|(show ai _ _ _ _ _ _ ((_,2)::_) _;refine aF (f:=25) rfl rfl rfl ?_) );refine⟨_,_,Tryz.func25,by kernel_rfl,by kernel_rfl,by kernel_rfl,fun W hW=>vF.out _,?_⟩;try (intro W af;replace HM:=ab af;clear af))|((first|(show ai _ _ _ _ _ _ ((_,2)::_) _;refine aF (f:=59) rfl rfl rfl ?_) );refine⟨_,_,Tryz.func59,by kernel_rfl,by kernel_rfl,by kernel_rfl,fun W hW=>V4.out _,?_⟩;try (intro W af;replace HM:=ab af;clear af))|(show ai _ _ _ _ _ _ ((_,0)::_) _;refine aj rfl rfl rfl (by kernel_rfl) _ (.inl rfl) (v:=.tuple _) rfl ?_)|(show ai _ _ _ _ _ _ ((_,0)::_) _;refine aZ rfl rfl rfl (by kernel_rfl) _ _ rfl rfl rfl ?_)|(show ai _ _ _ _ _ _ ((_,7)::_) _;refine uK rfl rfl rfl (by kernel_rfl) _ (.inr rfl) (v:=.int _ _) rfl ?_)|(show ai _ _ _ _ _ _ ((_,0)::_) _;refine bd rfl rfl rfl (by kernel_rfl) 30 _ 4 rfl rfl nL ?_)|(show ai _ _ _ _ _ _ ((_,0)::_) _;refine ca rfl rfl rfl (by kernel_rfl) _ _ rfl rfl mb ?_)|(show ai _ _ _ _ _ _ ((_,0)::_) _;refine db rfl rfl rfl (by kernel_rfl) _ _ _ _ rfl (xL _) ?_)|(show ai _ _ _ _ _ _ ((_,3)::_) _;refine an HM.out 24 _ _ rfl rfl ?_;(first|(refine⟨0,_,_,_,_,rfl,rfl,rfl,rfl,rfl,(dX qU.out),(cS (by rw[qU.out];rfl)),(bK _),?_⟩));intro W af;simp only[adj,adh,List.set_cons_zero,List.set_cons_succ] at af;replace HM:=ab af;clear af)|(show ai _ _ _ _ _ _ ((_,8)::_) _;refine j3 HM.out rfl rfl rfl (by kernel_rfl) lC _ _ rfl ⟨2,_,_,_,_,_,_,_,_,_,_,_,rfl,rfl,rfl,HDb.out,(fE (HM.out.at_ 0 rfl)),(by rw[HDb.out,List.size_toArray,ZM.out];decide),(aR _),?_⟩;intro W af;rw[ZN.out] at af;replace HM:=ab af;clear af)|(show ai _ _ _ _ _ _ [] _;refine bj ?_)|(show cu _ _ _ _ _ _ [] _ _;refine bm HM.out ?_;intro W af;simp only[adj,adh,List.set_cons_zero,List.set_cons_succ] at af;replace HM:=ab af;clear af)|(show ai _ _ _ _ _ _ [] _;refine ay (fun K hK=>?_);simp only[aG];go_simp;refine hK _ ?_;clear hK K))
  by_cases qA:E=0
  · rw[if_pos qA] at ze
    subst qA;go_wp2_with (first|(show wpList _ _ _ (⟨some 93,_,_,_,_,_⟩::_) _ _;refine ag 0 [(0,1),(1,3),(2,0)] rfl (by kernel_rfl) ?_)|(show ai _ _ _ _ _ _ ((_,1)::_) _;refine az rfl rfl rfl (by kernel_rfl) 30 _ rfl rfl Tryz.underlying30 rfl (t:=30) (by first|exact HM.out.at_ 2 rfl) (aT MS.out) ?_)|(show ai _ _ _ _ _ _ ((_,0)::_) _;refine aj rfl rfl rfl (by kernel_rfl) _ (.inr rfl) (v:=.int _ _) rfl ?_)|(show ai _ _ _ _ _ _ ((_,3)::_) _;refine an HM.out 30 _ _ rfl rfl ?_;(first|(refine⟨6,_,_,_,_,rfl,rfl,rfl,rfl,rfl,(aT MS.out),(bt aC MS.out),(bf _),?_⟩));intro W af;simp only[adj,adh,List.set_cons_zero,List.set_cons_succ] at af;replace HM:=ab af;clear af)|(show ai _ _ _ _ _ _ [] _;refine ay (fun K hK=>?_);simp only[aG];go_simp;refine hK _ ?_;clear hK K));refine adm (aA rfl _ _ _ _ _ (0,0) _ rfl (HM.out.at_ 6 rfl) _ rfl Tryz.underlying30 rfl (aT MS.out)) rfl ?_;refine⟨⟨fg,zV.out,?_⟩,HM.out.hb⟩;rw[ze.out];rfl
  rw[if_neg qA] at ze;have zY:0<E:=Nat.pos_of_ne_zero qA;go_wp2_with (first|(show wpList _ _ _ (⟨some 92,_,_,_,_,_⟩::_) _ _;refine ag 0 [(0,0),(1,3),(2,0)] rfl (by kernel_rfl) ?_)|(show ai _ _ _ _ _ _ ((_,0)::_) _;refine aM rfl rfl rfl (by kernel_rfl) 30 _ rfl kI rfl ?_)|(show ai _ _ _ _ _ _ ((_,0)::_) _;refine aj rfl rfl rfl (by kernel_rfl) _ (.inr rfl) (v:=.int _ _) rfl ?_)|(show ai _ _ _ _ _ _ ((_,3)::_) _;refine an HM.out 30 _ _ rfl rfl ?_;(first|(refine⟨6,_,_,_,_,rfl,rfl,rfl,rfl,rfl,(aT aC),(bt aC aC),(bf _),?_⟩));intro W af;simp only[adj,adh,List.set_cons_zero,List.set_cons_succ] at af;replace HM:=ab af;clear af)|(show ai _ _ _ _ _ _ [] _;refine ay (fun K hK=>?_);simp only[aG];go_simp;refine hK _ ?_;clear hK K));refine adm (aA rfl _ _ _ _ _ (0,0) _ rfl (HM.out.at_ 6 rfl) _ rfl Tryz.underlying30 rfl (aT aC)) rfl ?_;refine⟨⟨fg,zV.out,?_⟩,HM.out.hb⟩;rw[ze.out];rfl
 |false=>
  have ga:eu k.data=true:=by
   have h:=Gg.out;rw[HKey.good,if_neg (by rw[hp];decide)] at h;exact h
  rw[Cn,Co,hp] at wJ;simp only[Bool.false_eq_true,if_false] at wJ;rw[hp] at y7;have yR:=ab y7;have V4:=ab (fun W=>Ew k.data il Hk.out.data Uh.out ga W);have qU:=ab (EJ k.data il);obtain⟨E,hE⟩:=ae (TU k.data il);obtain⟨D,hD⟩:=ae (Q9 k.data il);rw[←hE,←hD] at V4;rw[←hD] at qU;rw[←hE,←hD] at wJ;have ZN:=ab (sz Gd.out D qU.out);have MS:=ab (tB Gd.out (d:=D) qU.out);obtain⟨k3,JW⟩:∃k3:HKey,k3={ k2 with data:=D }:=⟨_,rfl⟩;rw[←JW] at ZN MS;have ze:Hid (dA bF fg k n=if E=0 then (0,k3) else (7,aP)):=ab (by rw[wJ.out,JW,pJ]);clear hp ga y7 hE hD JW pJ wJ Gg Ja Uf Ug Zm NK Hz;go_upto_region 21 with (first|(show wpList _ _ _ (⟨some 69,_,_,_,_,_⟩::_) _ _;refine ag 0 [(0,1),(1,4)] rfl (by kernel_rfl) ?_)|(show wpList _ _ _ (⟨some 83,_,_,_,_,_⟩::_) _ _;refine ag 0 [(0,0),(1,1),(2,1),(3,4),(4,0),(5,0),(6,0),(7,0),(8,3),(9,0)] rfl (by kernel_rfl) ?_)|(show ai _ _ _ _ _ _ ((_,1)::_) _;refine az rfl rfl rfl (by kernel_rfl) 30 _ rfl rfl Tryz.underlying30 rfl (t:=30) (by first|exact HM.out.at_ 6 rfl) (aT Hk.out) ?_)|(show ai _ _ _ _ _ _ ((_,1)::_) _;refine az rfl rfl rfl (by kernel_rfl) 24 _ rfl rfl Tryz.underlying24 rfl (t:=24) (by first|exact HM.out.at_ 2 rfl) (dX Uh.out) ?_)|((first|(show ai _ _ _ _ _ _ ((_,4)::_) _;refine aw (f:=22) HM.out rfl rfl rfl rfl ?_));refine⟨_,_,Tryz.func22,by kernel_rfl,by kernel_rfl,by kernel_rfl,fun W hW=>yR.out _,?_⟩;try (intro W af;replace HM:=ab af;clear af))|((first|(show ai _ _ _ _ _ _ ((_,4)::_) _;refine aw (f:=60) HM.out rfl rfl rfl rfl ?_));refine⟨_,_,Tryz.func60,by kernel_rfl,by kernel_rfl,by kernel_rfl,fun W hW=>V4.out _,?_⟩;try (intro W af;replace HM:=ab af;clear af))|(show ai _ _ _ _ _ _ ((_,0)::_) _;refine aj rfl rfl rfl (by kernel_rfl) _ (.inl rfl) (v:=.tuple _) rfl ?_)|(show ai _ _ _ _ _ _ ((_,0)::_) _;refine aZ rfl rfl rfl (by kernel_rfl) _ _ rfl rfl rfl ?_)|(show ai _ _ _ _ _ _ ((_,0)::_) _;refine aj rfl rfl rfl (by kernel_rfl) _ (.inr rfl) (v:=.int _ _) rfl ?_)|(show ai _ _ _ _ _ _ ((_,0)::_) _;refine bd rfl rfl rfl (by kernel_rfl) 30 _ 4 rfl rfl nL ?_)|(show ai _ _ _ _ _ _ ((1,1)::_) _;refine bJ rfl rfl rfl (by kernel_rfl) 28 _ rfl rfl Tryz.underlying28 rfl (fF Hk.out.data) (u6 (t:=30) Hk.out (HM.out.at_ 6 rfl)) ?_)|(show ai _ _ _ _ _ _ ((_,3)::_) _;refine uY HM.out 28 _ _ rfl rfl ?_;refine⟨1,_,_,_,aW k2,B8 D,rfl,rfl,rfl,rfl,rfl,fF qU.out,(by rw[B8_length,qU.out,ZM.out];decide),bK _,?_⟩;intro W af;rw[ZN.out] at af;replace HM:=ab af;clear af)|(show ai _ _ _ _ _ _ [] _;refine ay (fun K hK=>?_);simp only[aG];go_simp;refine hK _ ?_;clear hK K))
  by_cases qA:E=0
  · rw[if_pos qA] at ze
    subst qA;go_wp2_with (first|(show wpList _ _ _ (⟨some 93,_,_,_,_,_⟩::_) _ _;refine ag 0 [(0,1),(1,3),(2,0)] rfl (by kernel_rfl) ?_)|(show ai _ _ _ _ _ _ ((_,1)::_) _;refine az rfl rfl rfl (by kernel_rfl) 30 _ rfl rfl Tryz.underlying30 rfl (t:=30) (by first|exact HM.out.at_ 1 rfl ) (aT MS.out) ?_)|(show ai _ _ _ _ _ _ ((_,0)::_) _;refine aj rfl rfl rfl (by kernel_rfl) _ (.inr rfl) (v:=.int _ _) rfl ?_)|(show ai _ _ _ _ _ _ ((_,3)::_) _;refine an HM.out 30 _ _ rfl rfl ?_;(first|(refine⟨5,_,_,_,_,rfl,rfl,rfl,rfl,rfl,(aT MS.out),(bt aC MS.out),(bf _),?_⟩) );intro W af;simp only[adj,adh,List.set_cons_zero,List.set_cons_succ] at af;replace HM:=ab af;clear af)|(show ai _ _ _ _ _ _ [] _;refine ay (fun K hK=>?_);simp only[aG];go_simp;refine hK _ ?_;clear hK K));refine adm (aA rfl _ _ _ _ _ (0,0) _ rfl (HM.out.at_ 5 rfl) _ rfl Tryz.underlying30 rfl (aT MS.out)) rfl ?_;refine⟨⟨fg,zV.out,?_⟩,HM.out.hb⟩;rw[ze.out];rfl
  rw[if_neg qA] at ze;have zY:0<E:=Nat.pos_of_ne_zero qA;go_wp2_with (first|(show wpList _ _ _ (⟨some 92,_,_,_,_,_⟩::_) _ _;refine ag 0 [(0,0),(1,3),(2,0)] rfl (by kernel_rfl) ?_)|(show ai _ _ _ _ _ _ ((_,0)::_) _;refine aM rfl rfl rfl (by kernel_rfl) 30 _ rfl kI rfl ?_)|(show ai _ _ _ _ _ _ ((_,0)::_) _;refine aj rfl rfl rfl (by kernel_rfl) _ (.inr rfl) (v:=.int _ _) rfl ?_)|(show ai _ _ _ _ _ _ ((_,3)::_) _;refine an HM.out 30 _ _ rfl rfl ?_;(first|(refine⟨5,_,_,_,_,rfl,rfl,rfl,rfl,rfl,(aT aC),(bt aC aC),(bf _),?_⟩) );intro W af;simp only[adj,adh,List.set_cons_zero,List.set_cons_succ] at af;replace HM:=ab af;clear af)|(show ai _ _ _ _ _ _ [] _;refine ay (fun K hK=>?_);simp only[aG];go_simp;refine hK _ ?_;clear hK K));refine adm (aA rfl _ _ _ _ _ (0,0) _ rfl (HM.out.at_ 5 rfl) _ rfl Tryz.underlying30 rfl (aT aC)) rfl ?_;refine⟨⟨fg,zV.out,?_⟩,HM.out.hb⟩;rw[ze.out];rfl
end Go.Proofs.YtnlkdheaohocnaaGreatDoor
