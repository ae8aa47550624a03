/- Whoever walks down with the secret signs what whoever walks down without it verifies, and the text of either walks the same way (StrongboxKeyed). No condition. -/
import Derived.Test.YtnlkdheaohocnaaGreatDoorU1
import Derived.Test.YtnlkdheaohocnaaGreatDoorU12
import Derived.Test.YtnlkdheaohocnaaGreatDoorU7
import Derived.Test.YtnlkdheaohocnaaGreatDoorU3
set_option maxRecDepth 1000000
set_option maxHeartbeats 16000000
set_option linter.unusedVariables false
set_option linter.unusedSimpArgs false
namespace Go.Proofs.YtnlkdheaohocnaaGreatDoor
open Go.RowKit Go.Shelf
theorem HH (st:List (BitVec 32)) (m t:List UInt8) (j:Nat) (h:64*j≤m.length):mq st (m++t) j=mq st m j:=by
 induction j with
 |zero=>rfl
 |succ j ih=>rw[mq,mq,ih (by omega),List.drop_append_of_le_length (by omega),List.take_append_of_le_length (by simp;omega)]
theorem K8 (st:List (BitVec 32)) (m t:List UInt8) (j q:Nat) (h:64*j≤m.length):mq (mq st m j) (m.drop (64*j)++t) q=mq st (m++t) (j+q):=by
 induction q with
 |zero=>rw[mq,Nat.add_zero,HH st m t j h]
 |succ q ih=>
  rw[mq,ih,←Nat.add_assoc,mq,←List.drop_append_of_le_length h,List.drop_drop];rw[show 64*j+64*q=64*(j+q) by omega]
def msg (b:List UInt8):List UInt8:=b++eF b.length 8
def oI (b:List UInt8):List UInt8:=jW (mq oH (msg b) ((msg b).length/64))
theorem eM (b:List UInt8):(oI b).length=32:=by rw[oI,lg,b7,AI]
theorem rp (b:List UInt8):jW (mq (mq oH b (b.length/64)) (b.drop (64*(b.length/64))++eF b.length 8) ((b.drop (64*(b.length/64))++eF b.length 8).length/64))=oI b:=by
 rw[oI,K8 _ _ _ _ _ (by omega),msg];congr 2;simp only[adv,adH];omega
theorem ua (A:Option Addr) (c:Nat) (b:List UInt8) (w:World) (hs:Sl w w.heap.size A (B8 b)) (hl:b.length≤2048) (jT:b.length≤c) (hc:c≤maxLen):
 Calls Tryz.prog 102 #[.slice A b.length c] w fun e W'=>e=.returned (.agg (B8 (oI b)).toArray)∧Below w.heap.size w W':=by
 have jO:=hs;go_enter Tryz.func102,Tryz.ntmps102;go_wp2_with fail;obtain⟨wa,sm⟩:∃wa,wa=w.alloc (.cells (Array.replicate 32 (.int .u8 0)) 25):=⟨_,rfl⟩;obtain⟨w1,fu⟩:∃w1,w1=wa.alloc (.cells (SC (List.replicate 8 0) (.slice none 0 0) (.int .u64 (0:Nat)) (.bool false)) 125):=⟨_,rfl⟩;have DQ:wa.heap.size=w.heap.size+1:=by rw[sm];exact adD _ _
 have kV:w1.heap.size=w.heap.size+2:=by rw[fu,adD,DQ]
 have DN:w1.heap[w.heap.size+1]?=some (.cells (SC (List.replicate 8 0) (.slice none 0 0) (.int .u64 (0:Nat)) (.bool false)) 125 (0,0)):=by rw[fu,←DQ];exact adk wa _
 have ub:wa.heap[w.heap.size]?=some (.cells (Array.replicate 32 (.int .u8 0)) 25 (0,0)):=by rw[sm];exact adk w _
 have lh:w1.heap[w.heap.size]?=some (.cells (Array.replicate 32 (.int .u8 0)) 25 (0,0)):=by rw[fu];exact(Below.heap_alloc wa _ _ (by omega)).trans ub
 have zM:Below w.heap.size w wa:=by rw[sm];exact(adl _ w).alloc (adi _) _
 have mY:Below w.heap.size w w1:=by rw[fu];exact zM.alloc (by omega) _
 have Qx:Sx (w.heap.size+1) w1 A (B8 b):=fun hn=>by
  obtain⟨bb,o,e,hb,gb⟩:=(jO.below mY) hn;exact⟨bb,o,e,by omega,by omega,gb⟩
 refine(show w1=_ by rw[fu,sm])▸?_;clear sm fu ub zM;refine(yv (w.heap.size+1) (w.heap.size+1) (List.replicate 8 0) (by simp) (.slice none 0 0) [] b 0 A c w1 (adi _) DN (by omega) (Ow.nil_ _ _ _ _) Qx (by omega) (by simpa using(by omega:b.length≤8192)) jT hc).mono ?_;rintro e w2 ⟨rfl,oV,A2,c2,lL,DL,G4,tY,_⟩;rw[adj] at lL G4 tY;rw[Nat.zero_add] at tY;have jx:=(oV.block w.heap.size (by omega)).trans lh;have OH:(b.drop (64*(b.length/64))).length=b.length%64:=by rw[adH];omega
 rw[←OH] at tY lL;go_wp2_with fail;refine(AP (w.heap.size+1) (mq oH b (b.length/64)) (by rw[b7];rfl) A2 c2 (b.drop (64*(b.length/64))) b.length w2 tY G4 (by omega) (by omega) lL DL).mono ?_;rw[rp];rintro e w3 ⟨rfl,sO⟩;obtain⟨rr,vQ⟩:=ae (oI b);have CY:rr.length=32:=by rw[vQ];exact eM _
 rw[←vQ];obtain⟨oc,fU⟩:∃oc,oc=(B8 rr).toArray:=⟨_,rfl⟩;have dv:oc.size=32:=by rw[fU];simp[CY]
 have cG:Hid ((Tryz.prog.info? 25).map (·.size)=some oc.size):=ab (by rw[dv];kernel_rfl);have jy:Hid ((Array.replicate 32 (Value.int .u8 0)).size=oc.size):=ab (by rw[dv];simp);have gn:Hid (oc.all (·.oneCell')=true):=ab (by rw[fU];exact all_oneCell_toArray (aR _));have mo:=oV.size;have sn:=(sO.block w.heap.size (by omega)).trans jx;have DR:=(mY.trans (oV.mono (by omega))).trans (sO.mono (by omega));have pH:=ab fU;have Xm:=ab vQ;have nx:=ab sn;rw[←fU];clear fU vQ CY dv sn jx lh tY G4 DN Qx jO;go_wp2_with (refine ado rfl 25 (.tmp 2) (.tmp 6) rfl w.heap.size oc rfl rfl 25 _ nx.out cG.out jy.out gn.out ?_);refine adm (v:=.agg oc) ?_ rfl ⟨by rw[pH.out,Xm.out],au DR (adi _) _⟩;exact adr rfl _ _ w.heap.size 25 oc (0,0) (.array 32 5) rfl (adt _ _ _ _ _ _ nx.out) (by kernel_rfl) rfl cG.out
theorem xm (g:Nat) (st:List (BitVec 32)) (fT:st.length=8) (A:Option Addr) (c:Nat) (wb:List UInt8) (n:Nat) (w:World)
 (hg:w.heap[g]?=some (.cells (SC st (.slice A wb.length c) (.int .u64 n) (.bool true)) 125 (0,0))) (hX:Sx g w A (B8 wb)) (hn:n≤4096) (OH:wb.length≤64) (K2:wb.length≤c) (hc:c≤maxLen):
 Calls Tryz.prog 74 #[.pointer (some ⟨g,0,none⟩)] w fun e W'=>e=.returned (.agg (B8 (oI (jW (mq st (wb++eF n 8) ((wb++eF n 8).length/64))))).toArray)∧Below w.heap.size w W':=by
 have kr:g<w.heap.size:=(adg.1 hg).1;have Hg:=ab hg;clear hg;go_enter Tryz.func74,Tryz.ntmps74;go_wp2_with fail;obtain⟨wa,sm⟩:∃wa,wa=w.alloc (.cells (Array.replicate 32 (.int .u8 0)) 25):=⟨_,rfl⟩;have DQ:wa.heap.size=w.heap.size+1:=by rw[sm];exact adD _ _
 have ub:wa.heap[w.heap.size]?=some (.cells (Array.replicate 32 (.int .u8 0)) 25 (0,0)):=by rw[sm];exact adk w _
 have zM:Below w.heap.size w wa:=by rw[sm];exact(adl _ w).alloc (adi _) _
 have hga:=(zM.block g kr).trans Hg.out;have hXa:=hX.below zM;refine(show wa=_ from sm)▸?_;clear sm;refine(AP g st fT A c wb n wa hga hXa hn OH K2 hc).mono ?_;rintro e w1 ⟨rfl,mY⟩;obtain⟨h1,qQ⟩:∃h1,h1=jW (mq st (wb++eF n 8) ((wb++eF n 8).length/64)):=⟨_,rfl⟩;have lE:h1.length=32:=by rw[qQ,lg,b7,fT]
 rw[←qQ];obtain⟨oc,fU⟩:∃oc,oc=(B8 h1).toArray:=⟨_,rfl⟩;have dv:oc.size=32:=by rw[fU];simp[lE]
 have cG:Hid ((Tryz.prog.info? 25).map (·.size)=some oc.size):=ab (by rw[dv];kernel_rfl);have jy:Hid ((Array.replicate 32 (Value.int .u8 0)).size=oc.size):=ab (by rw[dv];simp);have gn:Hid (oc.all (·.oneCell')=true):=ab (by rw[fU];exact all_oneCell_toArray (aR _));rw[←fU];have pH:=ab fU;have FC:=ab qQ;have kV:=mY.size;have lh:=(mY.block w.heap.size (by omega)).trans ub;have sj:=ab lh;clear fU qQ dv lh ub hga hXa;go_wp2_with (refine ado rfl 25 (.tmp 3) (.tmp 5) rfl w1.heap.size oc rfl rfl 25 _ (adk w1 _) cG.out jy.out gn.out ?_);rw[adJ];obtain⟨w2,kT⟩:=ae (w1.alloc (.cells oc 25));rw[←kT];have oV:Below w1.heap.size w1 w2:=by rw[kT];exact(adl _ _).alloc (adi _) _
 have mo:w2.heap.size=w1.heap.size+1:=by rw[kT];exact adD _ _
 have xo:w2.heap[w1.heap.size]?=some (.cells (B8 h1).toArray 25 (0,0)):=by rw[kT,←pH.out];exact adk w1 _
 have hS2:Sl w2 w2.heap.size (some ⟨w1.heap.size,0,none⟩) (B8 h1):=fun _=>⟨_,0,rfl,by omega,fun j hj=>by
  rw[adn w2 _ _ _ _ (0,0) xo,Nat.zero_add];simp⟩
 have jx:=(oV.block w.heap.size (by omega)).trans sj.out;have Sv:=ua (some ⟨w1.heap.size,0,none⟩) 32 h1 w2 hS2 (by omega) (by omega) (by decide);rw[lE] at Sv;refine Sv.mono ?_;rintro e w3 ⟨rfl,sO⟩;have sn:=(sO.block w.heap.size (by omega)).trans jx;have DR:=((zM.trans (mY.mono (by omega))).trans (oV.mono (by omega))).trans (sO.mono (by omega));rw[FC.out];obtain⟨rr,vQ⟩:∃rr,rr=oI (jW (mq st (wb++eF n 8) ((wb++eF n 8).length/64))):=⟨_,rfl⟩;have CY:rr.length=32:=by rw[vQ];exact eM _
 rw[←vQ];clear cG jy gn pH kT xo hS2 Sv;obtain⟨oc,fU⟩:∃oc,oc=(B8 rr).toArray:=⟨_,rfl⟩;have dv:oc.size=32:=by rw[fU];simp[CY]
 have cG:Hid ((Tryz.prog.info? 25).map (·.size)=some oc.size):=ab (by rw[dv];kernel_rfl);have jy:Hid ((Array.replicate 32 (Value.int .u8 0)).size=oc.size):=ab (by rw[dv];simp);have gn:Hid (oc.all (·.oneCell')=true):=ab (by rw[fU];exact all_oneCell_toArray (aR _));have pH:=ab fU;have Xm:=ab vQ;have nx:=ab sn;rw[←fU];clear fU vQ CY dv sn jx;go_wp2_with (refine ado rfl 25 (.tmp 2) (.tmp 7) rfl w.heap.size oc rfl rfl 25 _ nx.out cG.out jy.out gn.out ?_);refine adm (v:=.agg oc) ?_ rfl ⟨by rw[pH.out,Xm.out],au DR (adi _) _⟩;exact adr rfl _ _ w.heap.size 25 oc (0,0) (.array 32 5) rfl (adt _ _ _ _ _ _ nx.out) (by kernel_rfl) rfl cG.out
theorem uc (A:Option Addr) (c:Nat) (b:List UInt8) (w:World) (hs:Sl w w.heap.size A (B8 b)) (hl:b.length≤2048) (jT:b.length≤c) (hc:c≤maxLen):
 Calls Tryz.prog 62 #[.slice A b.length c] w fun e W'=>e=.returned (.agg (B8 (oI (oI b))).toArray)∧Below w.heap.size w W':=by
 have jO:=hs;go_enter Tryz.func62,Tryz.ntmps62;go_wp2_with fail;obtain⟨wa,sm⟩:∃wa,wa=w.alloc (.cells (Array.replicate 32 (.int .u8 0)) 25):=⟨_,rfl⟩;obtain⟨w1,fu⟩:∃w1,w1=wa.alloc (.cells (SC (List.replicate 8 0) (.slice none 0 0) (.int .u64 (0:Nat)) (.bool false)) 125):=⟨_,rfl⟩;have DQ:wa.heap.size=w.heap.size+1:=by rw[sm];exact adD _ _
 have kV:w1.heap.size=w.heap.size+2:=by rw[fu,adD,DQ]
 have DN:w1.heap[w.heap.size+1]?=some (.cells (SC (List.replicate 8 0) (.slice none 0 0) (.int .u64 (0:Nat)) (.bool false)) 125 (0,0)):=by rw[fu,←DQ];exact adk wa _
 have ub:wa.heap[w.heap.size]?=some (.cells (Array.replicate 32 (.int .u8 0)) 25 (0,0)):=by rw[sm];exact adk w _
 have lh:w1.heap[w.heap.size]?=some (.cells (Array.replicate 32 (.int .u8 0)) 25 (0,0)):=by rw[fu];exact(Below.heap_alloc wa _ _ (by omega)).trans ub
 have zM:Below w.heap.size w wa:=by rw[sm];exact(adl _ w).alloc (adi _) _
 have mY:Below w.heap.size w w1:=by rw[fu];exact zM.alloc (by omega) _
 have Qx:Sx (w.heap.size+1) w1 A (B8 b):=fun hn=>by
  obtain⟨bb,o,e,hb,gb⟩:=(jO.below mY) hn;exact⟨bb,o,e,by omega,by omega,gb⟩
 refine(show w1=_ by rw[fu,sm])▸?_;clear sm fu ub zM;refine(yv (w.heap.size+1) (w.heap.size+1) (List.replicate 8 0) (by simp) (.slice none 0 0) [] b 0 A c w1 (adi _) DN (by omega) (Ow.nil_ _ _ _ _) Qx (by omega) (by simpa using(by omega:b.length≤8192)) jT hc).mono ?_;rintro e w2 ⟨rfl,oV,A2,c2,lL,DL,G4,tY,_⟩;rw[adj] at lL G4 tY;rw[Nat.zero_add] at tY;have jx:=(oV.block w.heap.size (by omega)).trans lh;have OH:(b.drop (64*(b.length/64))).length=b.length%64:=by rw[adH];omega
 rw[←OH] at tY lL;go_wp2_with fail;refine(xm (w.heap.size+1) (mq oH b (b.length/64)) (by rw[b7];rfl) A2 c2 (b.drop (64*(b.length/64))) b.length w2 tY G4 (by omega) (by omega) lL DL).mono ?_;rw[rp];rintro e w3 ⟨rfl,sO⟩;obtain⟨rr,vQ⟩:=ae (oI (oI b));have CY:rr.length=32:=by rw[vQ];exact eM _
 rw[←vQ];obtain⟨oc,fU⟩:∃oc,oc=(B8 rr).toArray:=⟨_,rfl⟩;have dv:oc.size=32:=by rw[fU];simp[CY]
 have cG:Hid ((Tryz.prog.info? 25).map (·.size)=some oc.size):=ab (by rw[dv];kernel_rfl);have jy:Hid ((Array.replicate 32 (Value.int .u8 0)).size=oc.size):=ab (by rw[dv];simp);have gn:Hid (oc.all (·.oneCell')=true):=ab (by rw[fU];exact all_oneCell_toArray (aR _));have mo:=oV.size;have sn:=(sO.block w.heap.size (by omega)).trans jx;have DR:=(mY.trans (oV.mono (by omega))).trans (sO.mono (by omega));have pH:=ab fU;have Xm:=ab vQ;have nx:=ab sn;rw[←fU];clear fU vQ CY dv sn jx lh tY G4 DN Qx jO;go_wp2_with (refine ado rfl 25 (.tmp 2) (.tmp 6) rfl w.heap.size oc rfl rfl 25 _ nx.out cG.out jy.out gn.out ?_);refine adm (v:=.agg oc) ?_ rfl ⟨by rw[pH.out,Xm.out],au DR (adi _) _⟩;exact adr rfl _ _ w.heap.size 25 oc (0,0) (.array 32 5) rfl (adt _ _ _ _ _ _ nx.out) (by kernel_rfl) rfl cG.out
end Go.Proofs.YtnlkdheaohocnaaGreatDoor
namespace Go.Proofs.YtnlkdheaohocnaaGreatDoor
open Go Go.RowKit
section
variable {P:Program} {ops:Array Oper} {md:Region.Mode}
variable {Q:Act→World→Prop} {st:Nat→(Act→World→Prop)→Act→World→Prop} {S:World→Prop}
def Sw (listed:Array Bool):Nat:=listed.toList.countP (fun b=>b==false)
theorem FD {listed:Array Bool} {i:Nat} (h:listed.getD i true=false):Sw (listed.setIfInBounds i true)+1=Sw listed:=by
 have hi:i<listed.size:=by
  rcases Nat.lt_or_ge i listed.size with h'|h'
  · exact h'
  simp[Array.getElem?_eq_none h'] at h
 have hv:listed.toList[i]'(by simpa using hi)=false:=by simpa [hi] using h
 unfold Sw;rw[Array.toList_setIfInBounds,List.countP_set (h:=by simpa using hi)];have hm:0<listed.toList.countP (fun b=>b==false):=List.countP_pos_iff.2 ⟨false,by rw[←hv];exact List.getElem_mem _,rfl⟩;rw[hv,if_pos (by decide),if_neg (by decide)];omega
theorem AT {listed:Array Bool} (h:Sw listed=0):Region.ready md ops listed=[]:=by
 apply List.eq_nil_iff_forall_not_mem.2;intro i hi;have:=FD (mem_ready.1 hi).1;omega
theorem ud (L:cF P ops Q st) (I:Array Bool→Act→World→Prop) (hS:∀listed a w,I listed a w→S w)
 (ue:∀listed a w i,I listed a w→i∈Region.ready md ops listed→st i (I (listed.setIfInBounds i true)) a w)
 (AU:∀listed a w,I listed a w→Region.ready md ops listed=[]→Q a w):∀(fuel:Nat) (listed:Array Bool) (a:Act) (w:World),Sw listed=fuel→I listed a w→eL md ops Q st ops.size S fuel listed a w
 |0,listed,a,w,hd,h=>⟨AT hd,AU _ _ _ h (AT hd)⟩
 |fuel+1,listed,a,w,hd,h=>⟨fun hr=>AU _ _ _ h hr,fun i hi=>L.mono (fun a' w' h'=>⟨.inr (hS _ _ _ h'),ud L I hS ue AU fuel _ a' w' (by have:=FD (mem_ready.1 hi).1;omega) h'⟩) (ue _ _ _ _ h hi)⟩
def OM (md:Region.Mode) (ops:Array Oper):List Nat→Array Bool→Bool
 |[],_=>true
 |i::rest,listed=>(Region.ready md ops listed).contains i&&Region.free md ops listed i&&OM md ops rest (listed.setIfInBounds i true)
def pg (P:Program) (ops:Array Oper) (S:World→Prop) (C:Act→World→Prop):List Nat→Act→World→Prop
 |[],a,w=>C a w
 |i::rest,a,w=>match ops[i]? with
  |none=>False
  |some o=>∃v,YieldsIf P ops S o v a∧pg P ops S C rest (a.put o.dst v) w
def p4:List Nat→Array Bool→Array Bool
 |[],l=>l
 |i::rest,l=>p4 rest (l.setIfInBounds i true)
theorem uf (L:cF P ops Q st) (dm:Region.noSelect ops=true) (n:Nat) {C:Act→World→Prop}:∀(pre:List Nat) (listed:Array Bool) (a:Act) (w:World),
 OM md ops pre listed=true→Closed md ops listed→S w→(∀a w,S w→C a w→eL md ops Q st ops.size S n (p4 pre listed) a w)→pg P ops S C pre a w→eL md ops Q st ops.size S (pre.length+n) listed a w
 |[],listed,a,w,_,_,hS,hC,h=>by
  rw[List.length_nil,Nat.zero_add];exact hC a w hS h
 |i::rest,listed,a,w,hB,gb,hS,hC,h=>by
  simp only[OM,adx] at hB;obtain⟨⟨hr,hf⟩,du⟩:=hB;have mV:i∈Region.ready md ops listed:=by simpa using hr
  simp only[pg] at h;split at h
  · exact h.elim
  rename_i o ho;obtain⟨v,hy,hK⟩:=h;have nj:=uf L dm n rest (listed.setIfInBounds i true) (a.put o.dst v) w du (gb.set mV) hS hC hK;rw[adz,show rest.length+1+n=rest.length+n+1 by omega];exact cV L (S:=S) (S1:=S) ho (Region.noSelect_spec dm) (adg.1 ho).1 (fun l w' hc _ ht=>ht.resolve_left (Qz hc.1)) (rest.length+n) listed a w gb (Region.free_spec ho hf) mV hy (.inr hS) nj
end
section
variable {P:Program} {ops:Array Oper} {S:World→Prop} {F:Fence} {n:Nat}
theorem sQ {id:Nat} {Q:Exit→Act→World→Prop} {a:Act} {w:World} {l:List Oper} (S:World→Prop) (pre:List Nat) (I:Act→Array Bool→Act→World→Prop) (hF:∀k,F.fn k) (hm:P.follows .mixedOrders=true)
 (hB:(Region.noSelect l.toArray&&Region.noDefer l.toArray&&OM .any l.toArray pre (Array.replicate l.length false)&&(pre.length+Sw (p4 pre (Array.replicate l.length false))==l.length))=true) (hQ:∀c a d v w,Q (.panic c) (Act.put a d v) w→Q (.panic c) a w)
 (hS0:S w.drew) (hIS:∀listed a' w,I a listed a' w→S w)
 (ue:∀listed a' w i,I a listed a' w→i∈Region.ready .any l.toArray listed→wpOpIn F n P l.toArray Q i (I a (listed.setIfInBounds i true)) a' w)
 (AU:∀listed a' w,I a listed a' w→Region.ready .any l.toArray listed=[]→Q .normal a' w)
 (h:pg P l.toArray S (I a (p4 pre (Array.replicate l.length false))) pre a w.drew):(Code.region id l.toArray true).wpIn F n P Q a w:=by
 simp only[adx,beq_iff_eq] at hB;refine wpIn_region_any hm ?_;have L:=tN (F:=F) (n:=n) (P:=P) (ops:=l.toArray) Q hF hB.1.1.2 hQ
 have:=uf (S:=S) L hB.1.1.1 (Sw (p4 pre (Array.replicate l.length false))) pre (Array.replicate l.length false) a w.drew hB.1.2 ⟨by simp,fun j oj hj hl=>by
  rcases Nat.lt_or_ge j l.length with h|h
  · simp[h] at hl
  simp[h] at hl⟩ hS0 (fun a' w hS hI=>ud L (I a) hIS ue AU _ _ a' w rfl hI) h
 rw[hB.2] at this;have:=mr _ _ _ _ this;simpa using this
theorem j5 {i:Nat} {o:Oper} {Q:Exit→Act→World→Prop} {I:Act→World→Prop} {a:Act} {w:World} (ho:ops[i]?=some o) (hg:o.guard=none) (h:∀K:Act→World→Prop,(∀a w,I a w→K a w)→o.wpIn F n P a w K Q):wpOpIn F n P ops Q i I a w:=by
 simp only[wpOpIn,ho,Region.wanted,hg,if_true];exact h _ (fun _ _ h=>h)
theorem dj {o:Oper} {a:Act} {w:World} (ty:TypeId) (x:Operand) (ho:o.op=.load ty x) (g:Nat) (hx:a.eval x=.pointer (some ⟨g,0,none⟩)) (t:TypeId) (cs:Array Value) (fr:Nat×Nat) (d:TypeDesc) (hg:w.heap[g]?=some (.cells cs t fr))
 (hu:P.underlying ty=some d) (hd:(match d with|.struct _|.array _ _=>true|_=>false)=true) (hi:(P.info? ty).map (·.size)=some cs.size):(execOp a.eval o).run P w=.ok (.value (.agg cs)) w:=by
 unfold execOp;simp only[ho,hx,Instr.loadAt,Instr.sureAddr,Sem.run_bind,Sem.run_pure,Result.andThen_ok,run_loadVar_row w g t ty cs fr d hg hu hd hi]
theorem DS {md:Region.Mode} {listed:Array Bool} (hz:listed.size=ops.size) (hB:((List.range ops.size).all fun i=>match ops[i]? with|some o=>o.after.all (fun e=>decide (e.on<i))|none=>true)=true) (hr:Region.ready md ops listed=[]):
 ∀(j:Nat),j<ops.size→listed.getD j false=true:=by
 intro j
 induction j using Nat.strongRecOn with
 |ind j ih=>
  intro hj
  cases h:listed.getD j false with
  |true=>rfl
  |false=>
   exfalso;have pL:listed.getD j true=false:=by simp[hz,hj] at h⊢;exact h
   have ho:ops[j]?=some ops[j]:=Array.getElem?_eq_getElem hj;have hb:=List.all_eq_true.1 hB j (List.mem_range.2 hj);rw[ho] at hb
   have hm:j∈Region.ready md ops listed:=mem_ready.2 ⟨pL,ops[j],ho,fun e he _=>by
    have:=Array.all_eq_true_iff_forall_mem.1 hb e he;have aV:e.on<j:=by simpa using this
    exact ih e.on aV (by omega)⟩
   rw[hr] at hm
   cases hm
theorem lj {md:Region.Mode} {listed:Array Bool} {i:Nat} (j:Nat) (hi:i∈Region.ready md ops listed) (hB:(match ops[i]? with|some o=>o.after.any (fun e=>e.on==j&&Region.binds md e)|none=>false)=true):listed.getD j false=true:=by
 obtain⟨_,o,ho,dc⟩:=mem_ready.1 hi;rw[ho] at hB;obtain⟨e,he,hb⟩:=Array.any_eq_true'.1 hB;simp only[adx,beq_iff_eq] at hb;rw[←hb.1];exact dc e he hb.2
theorem dI {listed:Array Bool} {j:Nat} (h1:listed.getD j false=true) (h2:listed.getD j true=false):False:=by
 rw[ee h2] at h1
 cases h1
theorem n9 {listed:Array Bool} {i:Nat} {l:List Nat} (h:(l.all fun j=>listed.getD j false)=true):(l.all fun j=>(listed.setIfInBounds i true).getD j false)=true:=
 List.all_eq_true.2 fun j hj=>getD_set_true (List.all_eq_true.1 h j hj)
theorem iu {C:Act→World→Prop} {i:Nat} {rest:List Nat} {o:Oper} {a:Act} {w:World} (v:Value) (ho:ops[i]?=some o) (hg:Region.wanted o (yielded ops a.tmps)=true)
 (hv:∀W,S W→(execOp a.eval o).run P W=.ok (.value v) W) (h:pg P ops S C rest (a.put o.dst v) w):pg P ops S C (i::rest) a w:=by
 simp only[pg,ho];exact⟨v,.inl ⟨hg,fun w' hw=>hv w' hw⟩,h⟩
end
end Go.Proofs.YtnlkdheaohocnaaGreatDoor
namespace Go.Proofs.YtnlkdheaohocnaaGreatDoor
def wv:List Nat→Nat
 |[]=>0
 |a::l=>a+18446744073709551616*wv l
theorem Vz (j:Nat):2^(64*(j+1))=18446744073709551616*2^(64*j):=by
 rw[Nat.mul_add,Nat.pow_add,Nat.mul_comm]
theorem ry (a b:List Nat):wv (a++b)=wv a+2^(64*a.length)*wv b:=by
 induction a with
 |nil=>simp[wv]
 |cons x a ih=>rw[adh,wv,ih,wv,adz,Vz,Nat.mul_add,Nat.mul_assoc,Nat.add_assoc]
theorem Lh (n:Nat):wv (List.replicate n 0)=0:=by
 induction n with
 |zero=>rfl
 |succ n ih=>rw[List.replicate_succ,wv,ih]
theorem DY:∀(T:List Nat) (j:Nat) (h:j<T.length) (v:Nat),wv (T.set j v)+T[j]*2^(64*j)=wv T+v*2^(64*j)
 |x::T,0,_,v=>by simp[wv];omega
 |x::T,j+1,h,v=>by
  have hj:j<T.length:=by simpa using h
  have ih:=DY T j hj v;simp only[List.set_cons_succ,wv,List.getElem_cons_succ,Vz];have e1:T[j]*(18446744073709551616*2^(64*j))=18446744073709551616*(T[j]*2^(64*j)):=by rw[Nat.mul_left_comm]
  have e2:v*(18446744073709551616*2^(64*j))=18446744073709551616*(v*2^(64*j)):=by rw[Nat.mul_left_comm]
  rw[e1,e2];omega
theorem xq:∀(T:List Nat),(∀x∈T,x<18446744073709551616)→wv T<2^(64*T.length)
 |[],_=>by simp[wv]
 |x::T,h=>by
  have ih:=xq T (fun y hy=>h y (by simp[hy]));have hx:=h x (by simp);rw[wv,adz,Vz];omega
theorem jX (T:List Nat) (k:Nat) (h:k<T.length):wv (T.take (k+1))=wv (T.take k)+T[k]*2^(64*k):=by
 rw[adK h,ry,adq,Nat.min_eq_left (by omega),wv,wv];simp[Nat.mul_comm]
def dw (n i:Nat):Nat:=n/2^(64*i)%18446744073709551616
def bC (n:Nat):List Nat:=[dw n 0,dw n 1,dw n 2,dw n 3]
theorem jP (n i:Nat):dw n i<18446744073709551616:=Nat.mod_lt _ (by decide)
theorem oa (n:Nat):∀x∈bC n,x<18446744073709551616:=by
 simp only[bC,List.mem_cons,List.not_mem_nil,or_false];rintro x (rfl|rfl|rfl|rfl)<;>exact jP _ _
theorem jz (n:Nat):(bC n).length=4:=rfl
theorem iN (n:Nat) (h:n<2^256):wv (bC n)=n:=by
 simp only[bC,wv,dw,show 64*0=0 from rfl,show 64*1=64 from rfl,show 64*2=128 from rfl,show 64*3=192 from rfl];omega
theorem p8 (T:List Nat) (hl:T.length=4) (h:∀x∈T,x<18446744073709551616):bC (wv T)=T:=by
 match T,hl with
 |[a,b,c,d],_=>
  have ha:=h a (by simp);have hb:=h b (by simp);have hc:=h c (by simp);have hd:=h d (by simp);simp only[bC,wv,dw,show 64*0=0 from rfl,show 64*1=64 from rfl,show 64*2=128 from rfl,show 64*3=192 from rfl,List.cons.injEq,and_true];refine⟨by omega,by omega,by omega,by omega⟩
theorem mac (a b c t:Nat) (ha:a<18446744073709551616) (hb:b<18446744073709551616) (hc:c<18446744073709551616) (ht:t<18446744073709551616):
 a*b/18446744073709551616+(a*b%18446744073709551616+c)/18446744073709551616<18446744073709551616∧
 a*b/18446744073709551616+(a*b%18446744073709551616+c)/18446744073709551616+(t+(a*b%18446744073709551616+c)%18446744073709551616)/18446744073709551616<18446744073709551616∧
 (t+(a*b%18446744073709551616+c)%18446744073709551616)%18446744073709551616+18446744073709551616*(a*b/18446744073709551616+(a*b%18446744073709551616+c)/18446744073709551616+(t+(a*b%18446744073709551616+c)%18446744073709551616)/18446744073709551616)=t+a*b+c:=by
 have h1:a*b≤18446744073709551615*18446744073709551615:=Nat.mul_le_mul (by omega) (by omega);generalize a*b=p at*;refine⟨by omega,by omega,by omega⟩
theorem FJ (T:List Nat) (j:Nat) (h:j<T.length) (p c c' t':Nat) (he:t'+18446744073709551616*c'=T[j]+p+c):wv (T.set j t')+c'*2^(64*(j+1))=wv T+p*2^(64*j)+c*2^(64*j):=by
 have h1:=DY T j h t';rw[Vz];have h2:(t'+18446744073709551616*c')*2^(64*j)=(T[j]+p+c)*2^(64*j):=by rw[he]
 rw[Nat.add_mul,Nat.add_mul,Nat.add_mul] at h2;have e1:c'*(18446744073709551616*2^(64*j))=18446744073709551616*c'*2^(64*j):=by rw[←Nat.mul_assoc,Nat.mul_comm c']
 rw[e1];omega
def ak:Nat:=115792089237316195423570985008687907853269984665640564039457584007908834671663
def ar:Nat:=115792089237316195423570985008687907852837564279074904382605163141518161494337
def tm (m x e:Nat):Nat→Nat
 |0=>1
 |j+1=>if e/2^(255-j)%2=1 then tm m x e j*tm m x e j%m*x%m else tm m x e j*tm m x e j%m
def pw (m x e:Nat):Nat:=tm m x e 256
def bB (b:List UInt8):Nat:=b.foldl (fun a c=>a*256+c.toNat) 0
def dE (b:List UInt8):Bool:=decide (bB b≠0)&&decide (bB b<ar)
def p9 (x:Nat):Nat:=(x*x%ak*x%ak+7)%ak
def eQ (x:Nat):Nat:=pw ak (p9 x) ((ak+1)/4)
def cb (x:Nat):Bool:=decide (eQ x*eQ x%ak=p9 x)
def eu (b:List UInt8):Bool:=
 match b with
 |[]=>false
 |h::t=>decide (t.length=32)&&(decide (h=2)||decide (h=3))&&decide (bB t<ak)&&cb (bB t)
theorem OV (b:List UInt8):∀v,b.foldl (fun a c=>a*256+c.toNat) v=v*256^b.length+bB b:=by
 induction b with
 |nil=>intro v;simp[bB]
 |cons c b ih=>
  intro v
  have h0:bB (c::b)=c.toNat*256^b.length+bB b:=by
   rw[bB,List.foldl_cons,ih];simp
  rw[List.foldl_cons,ih,h0,adz,Nat.pow_succ,Nat.add_mul,Nat.mul_assoc,Nat.mul_comm 256,Nat.add_assoc]
theorem kt (a b:List UInt8):bB (a++b)=bB a*256^b.length+bB b:=by
 rw[bB,List.foldl_append,OV];rfl
theorem qa (a:List UInt8) (c:UInt8):bB (a++[c])=bB a*256+c.toNat:=by simp[bB]
theorem Li (c:UInt8) (b:List UInt8):bB (c::b)=c.toNat*256^b.length+bB b:=by
 have:=kt [c] b;simpa [bB] using this
theorem fV (b:List UInt8):bB b<256^b.length:=by
 induction b with
 |nil=>simp[bB]
 |cons c b ih=>
  rw[Li,adz,Nat.pow_succ];have:=c.toNat_lt;have h2:c.toNat*256^b.length≤255*256^b.length:=Nat.mul_le_mul_right _ (by omega);omega
def Pri (r:Nat):Prop:=1<r∧∀a b,r∣a*b→r∣a∨r∣b
def fv:List Nat→Nat
 |[]=>1
 |x::xs=>x*fv xs
theorem DZ {l l':List Nat} (h:l.Perm l'):fv l=fv l':=by
 induction h with
 |nil=>rfl
 |cons x _ ih=>simp[fv,ih]
 |swap x y l=>simp only[fv];rw[←Nat.mul_assoc,←Nat.mul_assoc,Nat.mul_comm x y]
 |trans _ _ h1 h2=>rw[h1,h2]
theorem OW {l l':List Nat} (h:l.Nodup) (hs:∀x∈l,x∈l') (hl:l'.length≤l.length):l.Perm l':=by
 induction l generalizing l' with
 |nil=>cases l' with
  |nil=>exact .nil
  |cons a t=>simp at hl
 |cons x xs ih=>
  have hx:=hs x (by simp);have hp:=List.perm_cons_erase hx;have hn:=List.nodup_cons.1 h;refine(List.Perm.cons x (ih hn.2 (fun y hy=>?_) ?_)).trans hp.symm
  · have bN:y≠x:=fun e=>hn.1 (e▸hy)
    exact(List.mem_erase_of_ne bN).2 (hs y (by simp[hy]))
  have:=hp.length_eq;simp at this hl;omega
theorem Ig (a r:Nat) (l:List Nat):fv (l.map fun x=>a*x%r)%r=a^l.length*fv l%r:=by
 induction l with
 |nil=>simp[fv]
 |cons x xs ih=>
  simp only[List.map_cons,fv,adz];rw[Nat.mul_mod,Nat.mod_mod,ih,←Nat.mul_mod,Nat.pow_succ];congr 1;simp only[Nat.mul_assoc,Nat.mul_left_comm,Nat.mul_comm]
theorem xr {r:Nat} (hr:Pri r) (l:List Nat) (h:∀x∈l,¬r∣x):¬r∣fv l:=by
 induction l with
 |nil=>intro h1;have:=Nat.le_of_dvd (by decide) h1;simp[fv] at this;have:=hr.1;omega
 |cons x xs ih=>
  intro h1;rcases hr.2 _ _ h1 with h2|h2
  · exact h x (by simp) h2
  exact ih (fun y hy=>h y (by simp[hy])) h2
theorem mD {r b c:Nat} (jT:b≤c) (h:r∣c-b):b%r=c%r:=by
 obtain⟨q,hq⟩:=h;rw[show c=b+r*q by omega,Nat.add_mul_mod_self_left]
theorem uh {r b c:Nat} (h:b%r=c%r):r∣c-b:=Nat.dvd_of_mod_eq_zero (Nat.sub_mod_eq_zero_of_mod_eq h.symm)
theorem yE {r:Nat} (hr:Pri r) {a b c:Nat} (ha:¬r∣a) (h:a*b%r=a*c%r):b%r=c%r:=by
 rcases Nat.le_total b c with jT|jT
 · rcases hr.2 a (c-b) (by rw[Nat.mul_sub];exact uh h) with h3|h3
   · exact absurd h3 ha
   exact mD jT h3
 rcases hr.2 a (b-c) (by rw[Nat.mul_sub];exact uh h.symm) with h3|h3
 · exact absurd h3 ha
 exact(mD jT h3).symm
theorem ui {r:Nat} (hr:Pri r) {a:Nat} (ha:¬r∣a):a^(r-1)%r=1:=by
 have h1:=hr.1
 have aV:∀x∈(List.range (r-1)).map (·+1),1≤x∧x<r:=fun x hx=>by
  obtain⟨y,hy,rfl⟩:=List.mem_map.1 hx;have:=List.mem_range.1 hy;omega
 have vI:∀x∈(List.range (r-1)).map (·+1),¬r∣x:=fun x hx h=>by
  have h2:=aV x hx;have:=Nat.le_of_dvd (by omega) h;omega
 have yF:((List.range (r-1)).map (·+1)).Nodup:=List.Pairwise.map (S:=(·≠·)) _ (fun a b h e=>h (by omega)) List.nodup_range;obtain⟨L,hL⟩:∃L,L=(List.range (r-1)).map (·+1):=⟨_,rfl⟩;rw[←hL] at aV vI yF
 have aa1:∀x,1≤x→x<r→x∈L:=fun x h1 h2=>by
  rw[hL];exact List.mem_map.2 ⟨x-1,List.mem_range.2 (by omega),by omega⟩
 have hlen:L.length=r-1:=by rw[hL];simp
 have hN:(L.map fun x=>a*x%r).Nodup:=by
  rw[List.nodup_iff_pairwise_ne,List.pairwise_map];refine List.Pairwise.imp_of_mem ?_ (List.nodup_iff_pairwise_ne.1 yF);intro x y hx hy bN he;have h3:=yE hr ha he;rw[adu (aV x hx).2,adu (aV y hy).2] at h3;exact bN h3
 have hS:∀x∈L.map (fun x=>a*x%r),x∈L:=fun x hx=>by
  obtain⟨y,hy,rfl⟩:=List.mem_map.1 hx;refine aa1 _ (Nat.pos_of_ne_zero fun h=>?_) (Nat.mod_lt _ (by omega));rcases hr.2 _ _ (Nat.dvd_of_mod_eq_zero h) with h3|h3
  · exact ha h3
  exact vI y hy h3
 have hP:=DZ (OW hN hS (by simp));have h2:=Ig a r L;rw[hP,hlen] at h2;have h4:fv L*1%r=fv L*a^(r-1)%r:=by rw[Nat.mul_one,h2,Nat.mul_comm]
 have h5:=yE hr (xr hr L vI) h4;rw[adu h1] at h5;exact h5.symm
theorem Lj (m x e:Nat) (hm:1<m) (he:e<2^256):∀j,j≤256→tm m x e j=x^(e/2^(256-j))%m
 |0,_=>by rw[Nat.sub_zero,Nat.div_eq_of_lt he,Nat.pow_zero,adu hm];rfl
 |j+1,h=>by
  have ih:=Lj m x e hm he j (by omega)
  have h2:e/2^(256-j)=e/2^(255-j)/2:=by
   rw[Nat.div_div_eq_div_mul,←Nat.pow_succ];congr 2;omega
  obtain⟨E,hE⟩:∃E,E=e/2^(255-j):=⟨_,rfl⟩;rw[←hE] at h2;rw[h2] at ih;rw[show 256-(j+1)=255-j by omega,tm,ih,←hE]
  have VA:x^(E/2)%m*(x^(E/2)%m)%m=x^(2*(E/2))%m:=by
   rw[←Nat.mul_mod,←Nat.pow_add,Nat.two_mul]
  split
  · rename_i h1
    rw[VA,show E=2*(E/2)+1 by omega,Nat.pow_succ,Nat.mod_mul_mod];congr 3;omega
  rw[VA];congr 2;omega
theorem mZ {m x e:Nat} (hm:1<m) (he:e<2^256):pw m x e=x^e%m:=by
 show tm m x e 256=_;rw[Lj m x e hm he 256 (adi _)];simp
def Irr (r:Nat):Prop:=1<r∧∀d,d∣r→d=1∨d=r
theorem Irr.pri {r:Nat} (h:Irr r):Pri r:=⟨h.1,fun a b Ih=>by
 rcases h.2 _ (Nat.gcd_dvd_left r a) with h1|h1
 · exact .inr (Nat.Coprime.dvd_of_dvd_mul_left h1 Ih)
 exact .inl (h1▸Nat.gcd_dvd_right r a)⟩
theorem Pri.irr {r:Nat} (h:Pri r):Irr r:=⟨h.1,fun d ⟨e,he⟩=>by
 have h1:=h.1;rcases h.2 d e ⟨1,by omega⟩ with ⟨k,hk⟩|⟨k,hk⟩
 · right
   have hd:d∣r:=⟨e,he⟩;exact Nat.dvd_antisymm hd ⟨k,hk⟩
 left;have he0:0<e:=Nat.pos_of_ne_zero (fun h0=>by rw[h0] at he;omega)
 have h2:e=e*(d*k):=by
  have:e=d*e*k:=by rw[←he];exact hk
  rw[Nat.mul_comm d e,Nat.mul_assoc] at this;exact this
 have h3:d*k=1:=Nat.eq_of_mul_eq_mul_left he0 (by rw[←h2,Nat.mul_one]);exact Nat.dvd_one.1 ⟨k,h3.symm⟩⟩
theorem uj:∀N,1<N→∃r,Irr r∧r∣N∧(r=N∨r*r≤N):=by
 intro N
 induction N using Nat.strongRecOn with
 |_ N ih=>
  intro hN
  by_cases hI:Irr N
  · exact⟨N,hI,Nat.dvd_refl _,.inl rfl⟩
  have hex:∃d,d∣N∧d≠1∧d≠N:=Classical.byContradiction fun hc=>hI ⟨hN,fun d hd=>Classical.byContradiction fun J0=>hc ⟨d,hd,fun h=>J0 (.inl h),fun h=>J0 (.inr h)⟩⟩
  have aa2:∃f,f∣N∧1<f∧f<N∧f*f≤N:=by
   obtain⟨d,⟨e,he⟩,h1,h2⟩:=hex;have SP:0<d:=Nat.pos_of_ne_zero (fun h0=>by rw[h0] at he;omega);have he0:0<e:=Nat.pos_of_ne_zero (fun h0=>by rw[h0] at he;omega);have he1:e≠1:=fun h0=>h2 (by rw[he,h0,Nat.mul_one])
   rcases Nat.le_total d e with h|h
   · have h3:d*d≤d*e:=Nat.mul_le_mul_left d h
     have h4:d*2≤d*e:=Nat.mul_le_mul_left d (by omega);exact⟨d,⟨e,he⟩,by omega,by omega,by omega⟩
   have h3:e*e≤d*e:=Nat.mul_le_mul_right e h;have h4:2*e≤d*e:=Nat.mul_le_mul_right e (by omega);exact⟨e,⟨d,by rw[he,Nat.mul_comm]⟩,by omega,by omega,by omega⟩
  obtain⟨f,hf,h1,h2,h3⟩:=aa2;obtain⟨r,hr,hd,_⟩:=ih f h2 h1;have hle:=Nat.le_of_dvd (by omega) hd;exact⟨r,hr,Nat.dvd_trans hd hf,.inr (Nat.le_trans (Nat.mul_le_mul hle hle) h3)⟩
theorem sp {r a m:Nat} (hr:1<r) (h:a^m%r=1) (t:Nat):a^(m*t)%r=1:=by
 rw[Nat.pow_mul,Nat.pow_mod,h,Nat.one_pow,adu hr]
theorem OX {r a:Nat} (hr:1<r) (m k:Nat) (h1:a^m%r=1) (h2:a^k%r=1):a^(Nat.gcd m k)%r=1:=by
 induction m,k using Nat.gcd.induction with
 |H0 k=>rwa [Nat.gcd_zero_left]
 |H1 m k hm ih=>
  rw[Nat.gcd_rec];refine ih ?_ h1;rw[←Nat.div_add_mod k m,Nat.pow_add,Nat.mul_mod,sp hr h1,Nat.one_mul,Nat.mod_mod] at h2;exact h2
theorem D0 {q q':Nat} (hq:Pri q) (XZ:Pri q') (h:q∣q'):q=q':=by
 rcases XZ.irr.2 q h with h1|h1
 · have:=hq.1;omega
 exact h1
theorem Ii {r q N1 a:Nat} (hr:Pri r) (hq:Pri q) (hqN:q∣N1) (h0:0<N1) (h1:a^N1%r=1) (h2:a^(N1/q)%r≠1):q∣r-1:=by
 have kS:=hr.1
 have ha:¬r∣a:=fun ⟨k,hk⟩=>by
  obtain⟨N2,rfl⟩:∃N2,N1=N2+1:=⟨N1-1,by omega⟩;rw[hk,Nat.pow_succ,←Nat.mul_assoc,Nat.mul_comm _ r,Nat.mul_assoc,Nat.mul_mod_right] at h1;omega
 refine Classical.byContradiction fun hn=>h2 ?_
 have hg:=OX kS N1 (r-1) h1 (ui hr ha);obtain⟨M,hM⟩:=hqN;have lQ:Nat.gcd N1 (r-1)∣q*M:=hM▸Nat.gcd_dvd_left N1 (r-1)
 have hc:Nat.Coprime (Nat.gcd N1 (r-1)) q:=by
  rcases hq.irr.2 _ (Nat.gcd_dvd_right (Nat.gcd N1 (r-1)) q) with h|h
  · exact h
  exact absurd (Nat.dvd_trans (h▸Nat.gcd_dvd_left (Nat.gcd N1 (r-1)) q) (Nat.gcd_dvd_right N1 (r-1))) hn
 obtain⟨t,ht⟩:=Nat.Coprime.dvd_of_dvd_mul_left hc lQ;have J1:=hq.1;rw[show N1/q=M by rw[hM,Nat.mul_div_cancel_left _ (by omega)],ht];exact sp kS hg t
theorem AY (m:Nat):∀qs:List Nat,qs.Nodup→(∀q∈qs,Pri q∧q∣m)→fv qs∣m
 |[],_,_=>⟨m,by simp[fv]⟩
 |q::qs,hn,h=>by
  have h1:=List.nodup_cons.1 hn;obtain⟨t,ht⟩:=AY m qs h1.2 (fun x hx=>h x (by simp[hx]));have hq:=h q (by simp);have vI:¬q∣fv qs:=xr hq.1 qs fun x hx hd=>h1.1 ((D0 hq.1 (h x (by simp[hx])).1 hd)▸hx)
  rcases hq.1.2 _ _ (ht▸hq.2) with h2|⟨u,hu⟩
  · exact absurd h2 vI
  exact⟨u,by rw[ht,hu,fv,←Nat.mul_assoc,Nat.mul_comm (fv qs) q]⟩
theorem aa3 {N:Nat} (hN:1<N) (qs:List Nat) (hn:qs.Nodup) (h:∀q∈qs,Pri q∧q∣N-1∧∃a,a^(N-1)%N=1∧Nat.gcd (a^((N-1)/q)%N+(N-1)) N=1) (hQ:N≤fv qs*fv qs):Pri N:=by
 obtain⟨r,hr,hd,NS⟩:=uj N hN;rcases NS with rfl|NS
 · exact hr.pri
 exfalso;have kS:=hr.1
 have hdv:fv qs∣r-1:=AY _ qs hn fun q hq=>by
  obtain⟨h1,h2,a,h3,h4⟩:=h q hq;refine⟨h1,Ii (a:=a) hr.pri h1 h2 (by omega) ?_ ?_⟩
  · have:a^(N-1)%N%r=1%r:=by rw[h3]
    rwa [Nat.mod_mod_of_dvd _ hd,adu kS] at this
  intro h5
  have h6:r∣a^((N-1)/q)%N+(N-1):=by
   have h7:(a^((N-1)/q)%N)%r=1:=by rw[Nat.mod_mod_of_dvd _ hd];exact h5
   have h8:=Nat.div_add_mod (a^((N-1)/q)%N) r;rw[h7] at h8;obtain⟨k,hk⟩:=hd;refine⟨a^((N-1)/q)%N/r+k,?_⟩;rw[Nat.mul_add,←hk];omega
  have h7:=Nat.dvd_gcd h6 hd;rw[h4] at h7;have:=Nat.le_of_dvd (by decide) h7;omega
 have hle:=Nat.le_of_dvd (by omega) hdv;have:=Nat.mul_le_mul hle hle;have h9:(r-1)*(r-1)<r*r:=ads (Nat.mul_lt_mul_of_lt_of_le (show r-1<r by omega) (adi (r-1)) (by omega)) (Nat.mul_le_mul_left r (by omega));omega
def X0 (N:Nat) (qs:List (Nat×Nat)):Bool:=qs.all fun p=>decide ((N-1)%p.1=0)&&decide (pw N p.2 (N-1)=1)&&decide (Nat.gcd (pw N p.2 ((N-1)/p.1)+(N-1)) N=1)
theorem jA {N:Nat} (hN:1<N) (acz:N≤2^256) (qs:List (Nat×Nat)) (hn:(qs.map (·.1)).Nodup) (hp:∀q∈qs,Pri q.1) (hb:X0 N qs=true) (hQ:N≤fv (qs.map (·.1))*fv (qs.map (·.1))):Pri N:=by
 refine aa3 hN _ hn (fun q hq=>?_) hQ;obtain⟨p,WB,rfl⟩:=List.mem_map.1 hq;have h1:=List.all_eq_true.1 hb p WB;simp only[adx,adB] at h1;obtain⟨⟨h1,h2⟩,h3⟩:=h1;have h4:(N-1)/p.1<2^256:=Nat.lt_of_le_of_lt (Nat.div_le_self _ _) (by omega);rw[mZ hN (by omega)] at h2;rw[mZ hN h4] at h3;exact⟨hp p WB,Nat.dvd_of_mod_eq_zero h1,p.2,h2,h3⟩
def uk (N:Nat):Nat→Nat→Bool
 |0,_=>false
 |k+1,d=>if N<d*d then true else if N%d=0 then false else uk N k (d+1)
theorem AZ {N:Nat}:∀k d,uk N k d=true→∀e,d≤e→e*e≤N→¬e∣N
 |0,d,h=>by simp[uk] at h
 |k+1,d,h=>fun e h1 h2 h3=>by
  unfold uk at h;split at h
  · have:=Nat.mul_le_mul h1 h1
    omega
  split at h
  · cases h
  rename_i h5;rcases Nat.lt_or_ge d e with h4|h4
  · exact AZ k (d+1) h e h4 h2 h3
  obtain rfl:d=e:=by omega
  exact h5 (Nat.mod_eq_zero_of_dvd h3)
theorem jb {N:Nat} (hN:1<N) (k:Nat) (h:uk N k 2=true):Pri N:=by
 obtain⟨r,hr,hd,NS⟩:=uj N hN;rcases NS with rfl|NS
 · exact hr.pri
 exact absurd hd (AZ k 2 h r hr.1 NS)
theorem vR:Pri 107590001:=jb (by decide) 10375 (by decide+kernel)
theorem A0:Pri 7240687:=jb (by decide) 2693 (by decide+kernel)
theorem Ij:Pri 96557:=jb (by decide) 313 (by decide+kernel)
theorem eB:Pri 255515944373312847190720520512484175977:=jA (by decide+kernel) (by decide+kernel) [(107590001,2),(7240687,2),(96557,2)] (by decide+kernel) (by
 intro q hq;simp only[List.mem_cons,List.not_mem_nil,or_false] at hq;rcases hq with rfl|rfl|rfl
 · exact vR
 · exact A0
 exact Ij) (by decide+kernel) (by decide+kernel)
theorem bP:Pri 205115282021455665897114700593932402728804164701536103180137503955397371:=jA (by decide+kernel) (by decide+kernel) [(255515944373312847190720520512484175977,2)] (by decide+kernel) (by
 intro q hq;simp only[List.mem_cons,List.not_mem_nil,or_false] at hq;rcases hq with rfl;exact eB) (by decide+kernel) (by decide+kernel)
theorem ku:Pri ak:=jA (by decide+kernel) (by decide+kernel) [(205115282021455665897114700593932402728804164701536103180137503955397371,2)] (by decide+kernel) (by
 intro q hq;simp only[List.mem_cons,List.not_mem_nil,or_false] at hq;rcases hq with rfl;exact bP) (by decide+kernel) (by decide+kernel)
theorem Ba:Pri 1627771:=jb (by decide) 1278 (by decide+kernel)
theorem vS:Pri 545358713:=jb (by decide) 23355 (by decide+kernel)
theorem Bb:Pri 4681609:=jb (by decide) 2166 (by decide+kernel)
theorem Ik:Pri 85831:=jb (by decide) 295 (by decide+kernel)
theorem rz:Pri 297159362677:=jA (by decide+kernel) (by decide+kernel) [(1627771,2)] (by decide+kernel) (by
 intro q hq;simp only[List.mem_cons,List.not_mem_nil,or_false] at hq;rcases hq with rfl;exact Ba) (by decide+kernel) (by decide+kernel)
theorem iC:Pri 29047611873442575647497758179:=jA (by decide+kernel) (by decide+kernel) [(297159362677,2),(545358713,2)] (by decide+kernel) (by
 intro q hq;simp only[List.mem_cons,List.not_mem_nil,or_false] at hq;rcases hq with rfl|rfl
 · exact rz
 exact vS) (by decide+kernel) (by decide+kernel)
theorem fL:Pri 341948486974166000522343609283189:=jA (by decide+kernel) (by decide+kernel) [(29047611873442575647497758179,2)] (by decide+kernel) (by
 intro q hq;simp only[List.mem_cons,List.not_mem_nil,or_false] at hq;rcases hq with rfl;exact iC) (by decide+kernel) (by decide+kernel)
theorem mE:Pri 107361793816595537:=jA (by decide+kernel) (by decide+kernel) [(4681609,2),(85831,2)] (by decide+kernel) (by
 intro q hq;simp only[List.mem_cons,List.not_mem_nil,or_false] at hq;rcases hq with rfl|rfl
 · exact Bb
 exact Ik) (by decide+kernel) (by decide+kernel)
theorem kx:Pri ar:=jA (by decide+kernel) (by decide+kernel) [(341948486974166000522343609283189,2),(107361793816595537,2)] (by decide+kernel) (by
 intro q hq;simp only[List.mem_cons,List.not_mem_nil,or_false] at hq;rcases hq with rfl|rfl
 · exact fL
 exact mE) (by decide+kernel) (by decide+kernel)
end Go.Proofs.YtnlkdheaohocnaaGreatDoor
namespace Go.Proofs.YtnlkdheaohocnaaGreatDoor
instance:NeZero ak:=⟨by decide+kernel⟩
theorem eN:1<ak:=ku.1
def bM (a:Fin ak):Fin ak:=Fin.ofNat ak (pw ak a.val (ak-2))
theorem nA {a:Fin ak} (h:a≠0):¬ak∣a.val:=fun h1=>h (by
 have h2:=a.isLt
 have h3:a.val=0:=by
  rcases Nat.eq_zero_or_pos a.val with h4|h4
  · exact h4
  exact absurd (Nat.le_of_dvd h4 h1) (by omega)
 exact Fin.ext (by rw[h3];rfl))
theorem dZ (a b:Fin ak):(a*b).val=a.val*b.val%ak:=Fin.val_mul a b
theorem fz:Fld ak bM where
 dom:=fun a b h=>by
  have h1:a.val*b.val%ak=0:=by rw[←dZ,h];rfl
  rcases ku.2 _ _ (Nat.dvd_of_mod_eq_zero h1) with h2|h2
  · exact .inl (Classical.byContradiction fun hn=>nA hn h2)
  exact .inr (Classical.byContradiction fun hn=>nA hn h2)
 inv:=fun a h=>by
  have h1:=ui ku (nA h);apply Fin.ext;rw[dZ]
  have h2:(bM a).val=a.val^(ak-2)%ak:=by
   show pw ak a.val (ak-2)%ak=_;rw[mZ eN (by decide+kernel),Nat.mod_mod]
  rw[h2,Nat.mul_mod_mod,←Nat.pow_succ',show (ak-2).succ=ak-1 by decide+kernel,h1];decide+kernel
 two:=by decide+kernel
 three:=by decide+kernel
 no2:=fun x h=>by
  have hv:(x.val*x.val*x.val+7)%ak=0:=by
   have h1:(x*x*x+7).val=(x.val*x.val*x.val+7)%ak:=by
    rw[Fin.val_add,dZ,dZ,show (7:Fin ak).val=7 by decide+kernel,Nat.mod_mul_mod,Nat.mod_add_mod]
   rw[←h1,h];rfl
  have hx:x≠0:=fun h0=>by
   rw[h0] at h;revert h;decide+kernel
  have h3:x.val^3%ak=ak-7:=by
   have e:x.val^3=x.val*x.val*x.val:=by rw[Nat.pow_succ,Nat.pow_succ,Nat.pow_one]
   rw[e];have h7:(7:Nat)<ak:=by decide+kernel
   have hm:=Nat.mod_lt (x.val*x.val*x.val) (show 0<ak by omega);obtain⟨r,hr⟩:∃r,r=x.val*x.val*x.val%ak:=⟨_,rfl⟩;rw[←hr] at hm⊢;have h8:(r+7)%ak=0:=by rw[hr,Nat.mod_add_mod];exact hv
   rcases Nat.lt_or_ge (r+7) ak with h9|h9
   · rw[adu h9] at h8;omega
   rw[Nat.mod_eq_sub_mod h9,adu (by omega)] at h8;omega
  have h4:=ui ku (nA hx);have h5:ak-1=3*((ak-1)/3):=by decide+kernel
  rw[h5,Nat.pow_mul,Nat.pow_mod,h3] at h4;rw[←mZ eN (by decide+kernel)] at h4;revert h4;decide+kernel
section
variable {n:Nat} [NeZero n] {inv:Fin n→Fin n}
def fR (inv:Fin n→Fin n) (P:Pt n):Nat→Pt n
 |0=>none
 |k+1=>cZ inv (fR inv P k) P
theorem ij (hF:Fld n inv) {P:Pt n} (hP:P.On):∀k,(fR inv P k).On
 |0=>trivial
 |k+1=>ll hF (ij hF hP k) hP
theorem jl (hF:Fld n inv) {P:Pt n} (hP:P.On) (a:Nat):∀b,fR inv P (a+b)=cZ inv (fR inv P a) (fR inv P b)
 |0=>by rw[Nat.add_zero,fR,fN]
 |b+1=>by
  show cZ inv (fR inv P (a+b)) P=cZ inv _ (cZ inv (fR inv P b) P);rw[jl hF hP a b,D3 hF (ij hF hP a) (ij hF hP b) hP]
theorem tq (hF:Fld n inv) {P:Pt n} (hP:P.On) (a:Nat):∀b,fR inv P (a*b)=fR inv (fR inv P a) b
 |0=>rfl
 |b+1=>by rw[Nat.mul_succ,jl hF hP,tq hF hP a b];rfl
def sU (inv:Fin n→Fin n) (P:Pt n) (k:Nat):Nat→Pt n
 |0=>none
 |j+1=>if k/2^(255-j)%2=1 then cZ inv (cZ inv (sU inv P k j) (sU inv P k j)) P else cZ inv (sU inv P k j) (sU inv P k j)
theorem og (hF:Fld n inv) {P:Pt n} (hP:P.On) (k:Nat) (hk:k<2^256):∀j,j≤256→sU inv P k j=fR inv P (k/2^(256-j))
 |0,_=>by rw[Nat.sub_zero,Nat.div_eq_of_lt hk];rfl
 |j+1,h=>by
  have ih:=og hF hP k hk j (by omega)
  have h2:k/2^(256-j)=k/2^(255-j)/2:=by
   rw[Nat.div_div_eq_div_mul,←Nat.pow_succ];congr 2;omega
  obtain⟨E,hE⟩:∃E,E=k/2^(255-j):=⟨_,rfl⟩;rw[←hE] at h2;rw[h2] at ih;rw[show 256-(j+1)=255-j by omega,sU,ih,←hE,←jl hF hP];split
  · show fR inv P (E/2+E/2+1)=_
    congr 1;omega
  congr 1;omega
def ba (x y z:Fin n) (k:Nat):Nat→Fin n×Fin n×Fin n
 |0=>(0,0,0)
 |j+1=>
  let d:=oL (ba x y z k j).1 (ba x y z k j).2.1 (ba x y z k j).2.2
  if k/2^(255-j)%2=1 then iD d.1 d.2.1 d.2.2 x y z else d
theorem yH (hF:Fld n inv) {P:Pt n} (hP:P.On) (k:Nat):∀j,(sU inv P k j).On
 |0=>trivial
 |j+1=>by
  have:=yH hF hP k j;unfold sU;split
  · exact ll hF (ll hF this this) hP
  exact ll hF this this
theorem l5 (hF:Fld n inv) {x y z:Fin n} {P:Pt n} (hP:P.On) (h:JRep x y z P) (k:Nat):∀j,JRep (ba x y z k j).1 (ba x y z k j).2.1 (ba x y z k j).2.2 (sU inv P k j)
 |0=>rfl
 |j+1=>by
  have ih:=l5 hF hP h k j;have ho:=yH hF hP k j;have hd:=Bc hF ho ih;unfold ba sU;split
  · exact um hF (ll hF ho ho) hP hd h
  exact hd
end
def gX:Fin ak:=55066263022277343669578718895168534326250603453777594175500187360389116729240
def gY:Fin ak:=32670510020758816978083085130507043184471273380659243275938904335757337482424
theorem qd:Pt.On (some (gX,gY)):=by
 show gY*gY=gX*gX*gX+7;decide+kernel
theorem OY:(ba gX gY 1 ar 256).2.2=0:=by decide+kernel
end Go.Proofs.YtnlkdheaohocnaaGreatDoor
namespace Go.Proofs.YtnlkdheaohocnaaGreatDoor
theorem uq {x y:Fin ak} (h:Pt.On (some (x,y))):p9 x.val=(y*y).val:=by
 have h1:y*y=x*x*x+7:=h;rw[h1,Fin.val_add,dZ,dZ,show (7:Fin ak).val=7 by decide+kernel];rfl
theorem FL {x y:Fin ak} (h:Pt.On (some (x,y))):eQ x.val*eQ x.val%ak=(y*y).val∧eQ x.val<ak:=by
 have hp:0<ak:=Nat.lt_trans (by decide) eN;have hy:¬ak∣y.val:=nA (fz.y0 h)
 have e:eQ x.val=(y.val*y.val%ak)^((ak+1)/4)%ak:=by
  rw[eQ,uq h,dZ,mZ eN (by decide+kernel)]
 refine⟨?_,by rw[e];exact Nat.mod_lt _ hp⟩;rw[e,←Nat.mul_mod,←Nat.pow_add,←Nat.pow_mod,dZ,←Nat.pow_two,←Nat.pow_mul,show 2*((ak+1)/4+(ak+1)/4)=(ak-1)+2 by decide+kernel,Nat.pow_add,Nat.mul_mod,ui ku hy,Nat.one_mul,Nat.mod_mod]
theorem OZ {x y:Fin ak} (h:Pt.On (some (x,y))):eQ x.val=y.val∨eQ x.val=ak-y.val:=by
 obtain⟨h1,h2⟩:=FL h;obtain⟨r,hr⟩:∃r:Fin ak,r.val=eQ x.val:=⟨⟨eQ x.val,h2⟩,rfl⟩;rw[←hr] at h1⊢;have h3:r*r=y*y:=Fin.ext (by rw[dZ,h1]);have h4:(r-y)*(r+y)=0:=by clear h h1 h2 hr;grind
 rcases fz.dom _ _ h4 with h5|h5
 · left
   have:r=y:=by clear h h1 h2 hr h3 h4;grind
   rw[this]
 right;have hy:y≠0:=fz.y0 h;have zH:y.val≠0:=fun h0=>hy (Fin.ext (by rw[h0];rfl))
 have h6:=congrArg Fin.val h5;rw[Fin.val_add] at h6;have h7:(r.val+y.val)%ak=0:=h6;have KP:=r.isLt;have OD:=y.isLt;rcases Nat.lt_or_ge (r.val+y.val) ak with h8|h8
 · rw[adu h8] at h7;omega
 rw[Nat.mod_eq_sub_mod h8,adu (by omega)] at h7;omega
theorem pv {x y:Fin ak} (h:Pt.On (some (x,y))):cb x.val=true:=by
 rw[cb,adB,uq h];exact(FL h).1
def eR (x odd:Nat):Nat:=if eQ x%2=odd then eQ x else ak-eQ x
theorem ur {x y:Fin ak} (h:Pt.On (some (x,y))):eR x.val (y.val%2)=y.val:=by
 have hl:=y.isLt;have rF:ak%2=1:=by decide+kernel
 unfold eR;rcases OZ h with h1|h1
 · rw[h1,if_pos rfl]
 rw[h1,if_neg (by omega)];omega
theorem yI {x:Nat} (hx:x<ak) (hc:cb x=true) (odd:Nat) (ho:odd<2):∃X Y:Fin ak,X.val=x∧Y.val=eR x odd∧Pt.On (some (X,Y))∧Y.val%2=odd:=by
 have hp:0<ak:=by omega
 have hr:eQ x<ak:=by
  rw[eQ,mZ eN (by decide+kernel)];exact Nat.mod_lt _ hp
 rw[cb,adB] at hc;have rF:ak%2=1:=by decide+kernel
 obtain⟨X,hX⟩:∃X:Fin ak,X.val=x:=⟨⟨x,hx⟩,rfl⟩;obtain⟨r,vQ⟩:∃r:Fin ak,r.val=eQ x:=⟨⟨eQ x,hr⟩,rfl⟩
 have h7:X*X*X+7=r*r:=Fin.ext (by
  rw[Fin.val_add,dZ,dZ,show (7:Fin ak).val=7 by decide+kernel,dZ,hX,vQ,hc];rfl)
 have hOn:Pt.On (some (X,r)):=h7.symm;have rG:r.val≠0:=fun h0=>fz.y0 hOn (Fin.ext (by rw[h0];rfl))
 unfold eR;split
 · rename_i he
   exact⟨X,r,hX,vQ,hOn,by rw[vQ];exact he⟩
 rename_i he
 have sV:(-r).val=ak-r.val:=by
  rw[Fin.val_neg'];exact adu (by have:=r.isLt;omega)
 refine⟨X,-r,hX,by rw[sV,vQ],?_,?_⟩
 · show-r*-r=X*X*X+7
   rw[h7];clear he rG hOn h7 hX vQ hc
   grind
 rw[sV,vQ];omega
end Go.Proofs.YtnlkdheaohocnaaGreatDoor
