/- Whoever walks down with the secret signs what whoever walks down without it verifies, and the text of either walks the same way (StrongboxKeyed). No condition. -/
import Derived.Test.YtnlkdheaohocnaaGreatDoorU1
import Derived.Test.YtnlkdheaohocnaaGreatDoorU32
import Derived.Test.YtnlkdheaohocnaaGreatDoorU31
import Derived.Test.YtnlkdheaohocnaaGreatDoorU23
import Derived.Test.YtnlkdheaohocnaaGreatDoorU27
import Derived.Test.YtnlkdheaohocnaaGreatDoorU26
import Derived.Test.YtnlkdheaohocnaaGreatDoorU13
import Derived.Test.YtnlkdheaohocnaaGreatDoorU14
import Derived.Test.YtnlkdheaohocnaaGreatDoorU4
import Derived.Test.YtnlkdheaohocnaaGreatDoorU12
import Derived.Test.YtnlkdheaohocnaaGreatDoorU7
import Derived.Test.YtnlkdheaohocnaaGreatDoorU17
set_option maxRecDepth 1000000
set_option maxHeartbeats 16000000
set_option linter.unusedVariables false
set_option linter.unusedSimpArgs false
namespace Go.Proofs.YtnlkdheaohocnaaGreatDoor
open Go Go.RowKit Go.Shelf
theorem MT {hm:List UInt8→List UInt8→List UInt8} {f:List UInt8} {k:HKey} {n:Nat} (h:(dA hm f k n).1≠0):(dA hm f k n).2=aP:=by
 unfold dA at h⊢;split
 · rfl
 rename_i h1;rw[if_neg h1] at h;split
 · rfl
 rename_i h2;rw[if_neg h2] at h;split
 · rfl
 rename_i h3;rw[if_neg h3] at h;split
 · rfl
 rename_i h4;rw[if_neg h4] at h;split
 · rename_i h5
   rw[if_pos h5] at h;split
   · rfl
   rename_i h6;rw[if_neg h6] at h;exact absurd rfl h
 rename_i h5;rw[if_neg h5] at h
 cases hq:cZ bM (fH k.data) (eC (bB ((dz hm k n).take 32))) with
 |none=>rfl
 |some P=>
  rw[hq] at h;exact absurd rfl h
theorem Mem.tl {w0 w:World} {L:List (Nat×TypeId×Array Value)} {x:Nat×TypeId×Array Value} (h:Mem w0 w (x::L)):Mem w0 w L:=⟨h.hb,fun r hr=>h.rows r (List.mem_cons_of_mem _ hr),(List.pairwise_cons.1 h.ne).2⟩
def iF (p:List Nat):List Value:=p.map fun (n:Nat)=>.int .u32 (n:Int)
@[simp] theorem U32v_length (p:List Nat):(iF p).length=p.length:=by simp[iF]
theorem zf (p:List Nat) (j:Nat) (h:j<p.length):(iF p)[j]'(by simpa using h)=.int .u32 ((p[j]:Nat):Int):=by simp[iF]
def eS (k:HKey) (p:List Nat) (e:Ending):Prop:=∃fs:Nat→List UInt8,(∀i,(fs i).length=4)∧e=.returned (.tuple #[.agg (aW (cI bF k p fs).2).toArray,.int .i64 ((cI bF k p fs).1:Nat)])
def nP (k:HKey) (p:List Nat) (kc:HKey) (q:List Nat):Prop:=∀gs:Nat→List UInt8,(∀i,(gs i).length=4)→∃fs:Nat→List UInt8,(∀i,(fs i).length=4)∧cI bF k p fs=cI bF kc q gs
theorem Cr {k kc:HKey} {p q:List Nat} {n:Nat} (h:nP k p kc (n::q)) {f:List UInt8} (hf:f.length=4) (h0:(dA bF f kc n).1=0):nP k p (dA bF f kc n).2 q:=fun gs kr=>by
 obtain⟨fs,h1,h2⟩:=h (fun i=>match i with|0=>f|i+1=>gs i) (fun i=>by cases i<;>simp[hf,kr]);refine⟨fs,h1,h2.trans ?_⟩;rw[cI];rw[if_pos h0]
theorem EL {k kc:HKey} {p q:List Nat} {n:Nat} (h:nP k p kc (n::q)) {f:List UInt8} (hf:f.length=4) (h0:(dA bF f kc n).1≠0):eS k p (.returned (.tuple #[.agg (aW aP).toArray,.int .i64 ((dA bF f kc n).1:Nat)])):=by
 obtain⟨fs,h1,h2⟩:=h (fun _=>f) (fun _=>hf);refine⟨fs,h1,?_⟩;rw[h2,cI];rw[if_neg h0]
theorem EM {k kc:HKey} {p:List Nat} (h:nP k p kc []):eS k p (.returned (.tuple #[.agg (aW kc).toArray,.int .i64 ((0:Nat):Int)])):=by
 obtain⟨fs,h1,h2⟩:=h (fun _=>[0,0,0,0]) (fun _=>rfl);exact⟨fs,h1,by rw[h2,cI]⟩
section
variable {P:Program} {ops:Array Oper} {Q:Exit→Act→World→Prop} {w0 w:World} {L:List (Nat×TypeId×Array Value)} {o:Oper} {a:Act} {i d:Nat} {rest:List (Nat×Nat)} {l:List (Nat×Value)}
theorem jf (hM:Mem w0 w L) {f:FuncId} {args:List Operand} {KF:Array TypeId} (ho:ops[i]?=some o) (hg:o.guard.isNone=true) (cK:o.op=.call { callee:=.value (.func f),args:=args.toArray,argTypes:=KF }) (hd:o.dst=some d) (S:Ending→Prop) (hS:∀e,S e→∃v,e=.returned v)
 (h:∃fn,P.funcs[f]?=some fn∧(fn.name== "runtime.NumGoroutine")=false∧fn.body.isSome=true∧Nat.blt d a.tmps.size=true∧(∀W,Ext w W→Calls P f (args.map (ev a l)).toArray W fun e W'=>S e∧Below W.heap.size W W')∧∀W v,S (.returned v)→Mem w0 W L→ai P ops (Q .normal) (fun i K a w=>wpOp P ops Q i K a w) a W rest ((d,v)::l)):ai P ops (Q .normal) (fun i K a w=>wpOp P ops Q i K a w) a w ((i,13)::rest) l:=by
 obtain⟨fn,h1,h2,h3,h4,h5,h6⟩:=h;refine dt (by decide) ho hg fun hl=>?_
 unfold Oper.wp;rw[gQ cK h1 h2 h3 w,show args.map (aG a l).eval=args.map (ev a l) from List.map_congr_left (fun x _=>bI hl x)];refine Calls.mono (h5 w (Ext.refl w)) fun e w' he=>?_
 obtain⟨he,bS⟩:=he;obtain⟨v,rfl⟩:=hS e he;show aI P ops _ _ 0 rest ((aG a l).put o.dst v) w';rw[hd];exact(h6 _ _ he (hM.below bS)).run (iK h4 hl)
end
theorem oE (k:HKey) (hk:k.Ok) (hg:k.good=true) (p:List Nat) (hp:∀n∈p,n<2147483648) (pe:p.length≤1000) (A:Option Addr) (c:Nat) (w:World) (hs:Sl w w.heap.size A (iF p)):Calls Tryz.prog 7 #[.agg (aW k).toArray,.slice A p.length c] w fun e W'=>eS k p e∧Below w.heap.size w W':=by
 have HM:=ab (Mem.start w);have Hk:=ab hk;have oS:=fun W=>nH k hk W
 rw[hg] at oS;have VZ:=ab oS;have HSt:Hid (∀(kc:HKey) (W:World) (n:Nat),kc.Ok→kc.good=true→n<2147483648→Calls Tryz.prog 19 #[.agg (aW kc).toArray,.int .u32 (n:Int)] W fun e W'=>vg kc n e∧Below W.heap.size W W'):=ab fun kc W n h1 h2 h3=>I9 kc h1 h2 n h3 W
 have Hp:=ab hp;have Hs:=ab hs;have Hg:=ab hg;obtain⟨N,hN⟩:=ae p.length;have HN:=ab hN;rw[←hN] at pe⊢;clear hk hg oS hp hs hN;go_enter Tryz.func7,Tryz.ntmps7;go_upto_region 3 with (first|(show wpList _ _ _ (⟨some 2,_,_,_,_,_⟩::_) _ _;refine ag 0 [(0,5),(1,6),(2,0)] rfl (by kernel_rfl) ?_)|(show wpList _ _ _ (⟨some 10,_,_,_,_,_⟩::_) _ _;refine ag 0 [(0,1),(1,4),(2,0)] rfl (by kernel_rfl) ?_)|(show ai _ _ _ _ _ _ ((_,5)::_) _;refine bh HM.out rfl rfl _ _ rfl rfl (by kernel_rfl) rfl ?_;intro W gN af;replace HM:=ab af;clear af)|(show ai _ _ _ _ _ _ ((_,6)::_) _;refine aq HM.out rfl rfl rfl (by kernel_rfl) (bL rfl) ?_;intro W gN af;replace HM:=ab af;clear af)|(show ai _ _ _ _ _ _ ((_,0)::_) _;refine aj rfl rfl rfl (by kernel_rfl) _ (.inr rfl) (v:=.int _ _) rfl ?_)|(show ai _ _ _ _ _ _ ((_,0)::_) _;refine fD rfl rfl rfl (by kernel_rfl) _ _ rfl rfl ?_)|(show ai _ _ _ _ _ _ ((_,1)::_) _;refine az rfl rfl rfl (by kernel_rfl) 30 _ rfl rfl Tryz.underlying30 rfl (t:=30) (by first|exact HM.out.at_ 1 rfl) (aT Hk.out) ?_)|((first|(show ai _ _ _ _ _ _ ((_,4)::_) _;refine aw (f:=16) HM.out rfl rfl rfl rfl ?_));refine⟨_,_,Tryz.func16,by kernel_rfl,by kernel_rfl,by kernel_rfl,fun W hW=>VZ.out _,?_⟩;try (intro W af;replace HM:=ab af;clear af))|(show ai _ _ _ _ _ _ [] _;refine ay (fun K hK=>?_);simp only[aG];go_simp;refine hK _ ?_;clear hK K));rename_i gK _ _ _ _ _;obtain⟨gR,N5⟩:∃g,g=gN:=⟨_,rfl⟩;rw[←N5] at HM;simp only[←N5];clear N5;go_wp2_with fail;go_loopw [16] (fun i wr=>∃j:Nat,j≤N∧i=.int .i64 j∧∃kc:HKey,kc.Ok∧kc.good=true∧Hid (nP k p kc (p.drop j))∧Hid (Mem w wr [(gR,30,(aW aP).toArray),(gK,30,(aW kc).toArray)])) (fun i _=>N-(intOf i).toNat)
 case atStart=>exact⟨0,adF _,rfl,k,Hk.out,Hg.out,ab (fun gs kr=>⟨gs,kr,rfl⟩),HM⟩
 case round=>
  clear HM;obtain⟨j,hjN,rfl,kc,qJ,lQ,HAt,HM⟩:=hrel
  by_cases aV:j<N
  · have EN:j<p.length:=by rw[←HN.out];exact aV
    obtain⟨b0,o0,hA,de,aS⟩:=(Hs.out.ext (av HM.out.hb)) (by rw[U32v_length];omega);have hc:=aS j (by rw[U32v_length];exact EN);rw[zf p j EN] at hc;obtain⟨n,hn⟩:∃n,n=p[j]:=⟨_,rfl⟩;rw[←hn] at hc;have abF:n<2147483648:=by rw[hn];exact Hp.out _ (List.getElem_mem EN)
    have ZO:Hid (nP k p kc (n::p.drop (j+1))):=ab (by rw[hn,←List.drop_eq_getElem_cons EN];exact HAt.out);have Ue:=ab (fun W=>HSt.out kc W n qJ lQ abF);have m5:=ab qJ;subst hA;clear aS de hn HAt EN qJ;go_upto_region 6 with fail;go_wp2_with (first|(show wpList _ _ _ (⟨some 21,_,_,_,_,_⟩::_) _ _;refine ag 0 [(0,1),(1,0),(2,13),(3,0),(4,0),(5,0),(6,6),(7,3),(8,0)] rfl (by kernel_rfl) ?_)|(show ai _ _ _ _ _ _ ((_,1)::_) _;refine az rfl rfl rfl (by kernel_rfl) 30 _ rfl rfl Tryz.underlying30 rfl (t:=30) (by first|exact HM.out.at_ 1 rfl) (aT m5.out) ?_)|(show ai _ _ _ _ _ _ ((_,0)::_) _;refine aj rfl rfl rfl (by kernel_rfl) _ (.inl rfl) (v:=.int _ _) rfl ?_));refine jf (f:=19) HM.out rfl rfl rfl rfl (fun e=>vg kc n e) (fun e he=>⟨_,he.choose_spec.2⟩) ⟨_,Tryz.func19,by kernel_rfl,by kernel_rfl,by kernel_rfl,fun W hW=>Ue.out W,?_⟩;intro W v hv af;replace HM:=ab af;clear af;obtain⟨f,hf,hv⟩:=hv;injection hv with hv;obtain⟨E,hE⟩:∃E,E=(dA bF f kc n).1:=⟨_,rfl⟩;obtain⟨kn,ZP⟩:∃kn,kn=(dA bF f kc n).2:=⟨_,rfl⟩;rw[←hE,←ZP] at hv;subst hv;have h32:n<4294967296:=by omega
    have m9:E=0→I3 kn:=fun h0=>by
     rw[ZP];exact Cd dK hf h32 (hE.symm.trans h0)
    have V5:Hid (kn.Ok):=ab (by
     by_cases h0:E=0
     · exact(m9 h0).ok
     rw[ZP,MT (fun e=>h0 (hE.trans e))];exact aC)
    have m6:Hid (E=0→nP k p kn (p.drop (j+1))):=ab (fun h0=>by
     rw[ZP];exact Cr ZO.out hf (hE.symm.trans h0))
    have Uj:Hid (E≠0→eS k p (.returned (.tuple #[.agg (aW aP).toArray,.int .i64 (E:Nat)]))):=ab (fun h0=>by
     rw[hE];exact EL ZO.out hf (fun e=>h0 (hE.trans e)))
    have qK:=ab m9;clear hf hE ZP h32 m9;go_upto_region 7 with (first|(show ai _ _ _ _ _ _ ((3,0)::_) _;refine aj rfl rfl rfl (by kernel_rfl) _ (.inl rfl) (v:=.tuple _) rfl ?_)|(show ai _ _ _ _ _ _ ((_,0)::_) _;refine aZ rfl rfl rfl (by kernel_rfl) _ _ rfl rfl rfl ?_)|(show ai _ _ _ _ _ _ ((_,6)::_) _;refine aq HM.out rfl rfl rfl (by kernel_rfl) (bL rfl) ?_;intro W gN af;replace HM:=ab af;clear af)|(show ai _ _ _ _ _ _ ((_,0)::_) _;refine aj rfl rfl rfl (by kernel_rfl) _ (.inr rfl) (v:=.int _ _) rfl ?_)|(show ai _ _ _ _ _ _ ((_,3)::_) _;refine an HM.out 30 _ _ rfl rfl ?_;(first|(refine⟨0,_,_,_,_,rfl,rfl,rfl,rfl,rfl,(aT V5.out),(bt aC V5.out),(bf _),?_⟩));intro W af;simp only[adj,adh,List.set_cons_zero,List.set_cons_succ] at af;replace HM:=ab af;clear af)|(show ai _ _ _ _ _ _ [] _;refine ay (fun K hK=>?_);simp only[aG];go_simp;refine hK _ ?_;clear hK K))
    by_cases qA:E=0
    · have hgn:=(qK.out qA).good
      have Hn2:=ab (m6.out qA);clear m6 Uj qK;subst qA;go_wp2_with (first|(show wpList _ _ _ (⟨some 30,_,_,_,_,_⟩::_) _ _;refine ag 0 [(0,1),(1,3)] rfl (by kernel_rfl) ?_)|(show ai _ _ _ _ _ _ ((_,1)::_) _;refine az rfl rfl rfl (by kernel_rfl) 30 _ rfl rfl Tryz.underlying30 rfl (t:=30) (by first|exact HM.out.at_ 0 rfl ) (aT V5.out) ?_)|(show ai _ _ _ _ _ _ ((_,3)::_) _;refine an HM.out 30 _ _ rfl rfl ?_;refine⟨2,_,_,_,_,rfl,rfl,rfl,rfl,rfl,aT V5.out,bt m5.out V5.out,bf _,?_⟩;intro W af;replace HM:=ab af;clear af)|(show ai _ _ _ _ _ _ [] _;refine ay (fun K hK=>?_);simp only[aG];go_simp;refine hK _ ?_;clear hK K));exact⟨⟨j+1,by omega,rfl,kn,V5.out,hgn,Hn2,ab (Mem.tl HM.out)⟩,by simp[intOf];omega⟩
    have Hr:=ab (Uj.out qA);have zY:0<E:=Nat.pos_of_ne_zero qA;clear m6 Uj qK;go_wp2_with (first|(show wpList _ _ _ (⟨some 28,_,_,_,_,_⟩::_) _ _;refine ag 0 [(0,0),(1,0),(2,3),(3,0)] rfl (by kernel_rfl) ?_)|(show ai _ _ _ _ _ _ ((_,0)::_) _;refine aM rfl rfl rfl (by kernel_rfl) 30 _ rfl kI rfl ?_)|(show ai _ _ _ _ _ _ ((_,0)::_) _;refine aj rfl rfl rfl (by kernel_rfl) _ (.inl rfl) (v:=.int _ _) rfl ?_)|(show ai _ _ _ _ _ _ ((_,0)::_) _;refine aj rfl rfl rfl (by kernel_rfl) _ (.inr rfl) (v:=.int _ _) rfl ?_)|(show ai _ _ _ _ _ _ ((_,3)::_) _;refine an HM.out 30 _ _ rfl rfl ?_;(first|(refine⟨1,_,_,_,_,rfl,rfl,rfl,rfl,rfl,(aT aC),(bt aC aC),(bf _),?_⟩));intro W af;simp only[adj,adh,List.set_cons_zero,List.set_cons_succ] at af;replace HM:=ab af;clear af)|(show ai _ _ _ _ _ _ [] _;refine ay (fun K hK=>?_);simp only[aG];go_simp;refine hK _ ?_;clear hK K));refine adm (aA rfl _ _ _ _ _ (0,0) _ rfl (HM.out.at_ 1 rfl) _ rfl Tryz.underlying30 rfl (aT aC)) rfl ?_;exact⟨Hr.out,HM.out.hb⟩
  obtain rfl:j=N:=by omega
  have PJ:=ab (EM (show nP k p kc [] by have:=HAt.out;rw[HN.out,List.drop_length] at this;exact this));have m5:=ab qJ;clear HAt qJ;go_wp2_with (first|(show wpList _ _ _ (⟨some 32,_,_,_,_,_⟩::_) _ _;refine ag 0 [(0,1),(1,3),(2,0)] rfl (by kernel_rfl) ?_)|(show ai _ _ _ _ _ _ ((_,1)::_) _;refine az rfl rfl rfl (by kernel_rfl) 30 _ rfl rfl Tryz.underlying30 rfl (t:=30) (by first|exact HM.out.at_ 1 rfl) (aT m5.out) ?_)|(show ai _ _ _ _ _ _ ((_,0)::_) _;refine aj rfl rfl rfl (by kernel_rfl) _ (.inr rfl) (v:=.int _ _) rfl ?_)|(show ai _ _ _ _ _ _ ((_,3)::_) _;refine an HM.out 30 _ _ rfl rfl ?_;(first|(refine⟨0,_,_,_,_,rfl,rfl,rfl,rfl,rfl,(aT m5.out),(bt aC m5.out),(bf _),?_⟩) );intro W af;simp only[adj,adh,List.set_cons_zero,List.set_cons_succ] at af;replace HM:=ab af;clear af)|(show ai _ _ _ _ _ _ [] _;refine ay (fun K hK=>?_);simp only[aG];go_simp;refine hK _ ?_;clear hK K));refine adm (aA rfl _ _ _ _ _ (0,0) _ rfl (HM.out.at_ 0 rfl) _ rfl Tryz.underlying30 rfl (aT m5.out)) rfl ?_;exact⟨PJ.out,HM.out.hb⟩
end Go.Proofs.YtnlkdheaohocnaaGreatDoor
namespace Go.Proofs.YtnlkdheaohocnaaGreatDoor
open Go Go.RowKit Go.Shelf
theorem Jb {P:Program} (w:World) (d:Nat) {t e:TypeId} {q:IntKind} {n:Nat} (ht:P.underlying t=some (.array n e)) (hu:P.underlying e=some (.int q)) (he:P.plainKey e=true) (hc:P.cellsOf e=1) (X:List Int) (hX:X.length=n):
 (Op.equalIn (d+1+1) t (.agg (X.map (Value.int q)).toArray) (.agg (X.map (Value.int q)).toArray)).run P w=.ok true w:=by
 obtain⟨i,hi⟩:=info_of_underlying hu;rw[run_equalIn_array w _ _ _ ht hi,hc,je w _ hu he X X _ _ rfl rfl (by omega) _ (fun j hj=>by rw[List.mem_range] at hj;omega),←hX,qD X X rfl];simp
theorem PK (b:List UInt8):B8 b=(b.map fun x=>(x.toNat:Int)).map (Value.int .u8):=by simp[B8]
theorem iq (d:Nat) {t:TypeId} {n:Nat} (ht:Tryz.prog.underlying t=some (.array n 5)) (b:List UInt8) (hb:b.length=n) (w:World):(Op.equalIn (d+1+1) t (.agg (B8 b).toArray) (.agg (B8 b).toArray)).run Tryz.prog w=.ok true w:=by
 rw[PK];exact Jb w d ht Tryz.underlying5 (by kernel_rfl) (by kernel_rfl) _ (by simp[hb])
theorem pC {t:TypeId} {n:Nat} (ht:Tryz.prog.underlying t=some (.array n 5)) (hi:(Tryz.prog.info? t).map (·.size)=some n) (xs:Array Value) (off:Nat) (w:World):(part t xs off).run Tryz.prog w=.ok (.agg (xs.extract off (off+n))) w:=by
 cases hq:Tryz.prog.info? t with
 |none=>simp[hq] at hi
 |some i=>
  simp[hq] at hi;simp[part,isAgg,run_underlying ht,sizeOf,typeInfo,hq,hi]
theorem nQ {P:Program} {w:World} {d:Nat} {xs:Array Value} {f:Field} {fs:List Field} {a:Value} {b:Bool} (hn:f.name≠ "_") (hp:(part f.type xs f.offset).run P w=.ok a w) (he:(Op.equalIn d f.type a a).run P w=.ok b w) (hb:b=true) (h:(Op.eqFields d xs xs fs).run P w=.ok true w):(Op.eqFields d xs xs (f::fs)).run P w=.ok true w:=by
 subst hb;rw[Op.eqFields,if_pos hn];simp only[Sem.run_bind,hp,he,Result.andThen_ok,Bool.not_true,Bool.false_eq_true,if_false];exact h
theorem zh (k:HKey) (hk:k.Ok) (w:World):(Op.equalIn 10000 30 (.agg (aW k).toArray) (.agg (aW k).toArray)).run Tryz.prog w=.ok true w:=by
 obtain⟨dp,fg,ch,cn,da⟩:=k;have h1:(B8 fg).length=4:=by rw[B8_length];exact hk.finger
 have h2:(B8 cn).length=32:=by rw[B8_length];exact hk.chain
 have h3:(B8 da).length=33:=by rw[B8_length];exact hk.data
 rw[show 10000=9999+1 from rfl,run_equalIn_struct w 9999 30 _ _ (by kernel_rfl) (by kernel_rfl)];obtain⟨xs,yi⟩:∃xs,xs=(aW ⟨dp,fg,ch,cn,da⟩).toArray:=⟨_,rfl⟩;have e0:xs[0]?=some (.int .u8 (dp.toNat:Int)):=by rw[yi];rfl
 have el:xs.toList=.int .u8 (dp.toNat:Int)::(B8 fg++ .int .u32 (ch:Int)::(B8 cn++B8 da)):=by rw[yi];simp[aW]
 have e1:xs.extract 1 (1+4)=(B8 fg).toArray:=by
  apply Array.ext';rw[Array.toList_extract,el];simp[List.extract,h1,List.drop_succ_cons]
 have e2:xs[5]?=some (.int .u32 (ch:Int)):=by
  rw[←Array.getElem?_toList,el,List.getElem?_cons_succ,adC (by omega),h1];rfl
 have e3:xs.extract 6 (6+32)=(B8 cn).toArray:=by
  apply Array.ext';rw[Array.toList_extract,el];simp[List.extract,List.drop_succ_cons,List.drop_append,h1,h2,List.drop_of_length_le (show (B8 fg).length≤5 by omega)]
 have e4:xs.extract 38 (38+33)=(B8 da).toArray:=by
  apply Array.ext';rw[Array.toList_extract,el];simp[List.extract,List.drop_succ_cons,List.drop_append,h1,h2,h3,List.drop_of_length_le (show (B8 fg).length≤37 by omega)];rw[←h3,List.take_length]
 rw[←yi];unfold Program.fieldsOf;simp only[Tryz.underlying30,List.toList_toArray];refine nQ (by decide) (run_part_plain w (by kernel_rfl) e0) (run_equalIn_int w 9998 _ .u8 .u8 _ _ Tryz.underlying5) (by simp) ?_;refine nQ (by decide) ((pC Tryz.underlying26 (by kernel_rfl) xs 1 w).trans (by rw[e1])) (iq 9997 Tryz.underlying26 fg hk.finger w) rfl ?_;refine nQ (by decide) (run_part_plain w (by kernel_rfl) e2) (run_equalIn_int w 9998 _ .u32 .u32 _ _ Tryz.underlying27) (by simp) ?_;refine nQ (by decide) ((pC Tryz.underlying24 (by kernel_rfl) xs 6 w).trans (by rw[e3])) (iq 9997 Tryz.underlying24 cn hk.chain w) rfl ?_;refine nQ (by decide) ((pC Tryz.underlying28 (by kernel_rfl) xs 38 w).trans (by rw[e4])) (iq 9997 Tryz.underlying28 da hk.data w) rfl ?_;rfl
end Go.Proofs.YtnlkdheaohocnaaGreatDoor
namespace Go.Proofs.YtnlkdheaohocnaaGreatDoor
open Go
theorem xN {k:HKey} (hk:k.Ok) (hg:k.good=true) (hp:k.priv=true):Bare k { k with data:=iE k }:=by
 have ga:dE (k.data.drop 1)=true:=by
  rw[HKey.good,if_pos hp] at hg;exact hg
 have hd:=hk.data
 have h0:k.data.getD 0 0=0:=by
  rw[HKey.priv] at hp;exact of_decide_eq_true hp
 obtain⟨t,ht⟩:∃t,k.data=0::t:=by
  cases hq:k.data with
  |nil=>rw[hq] at hd;cases hd
  |cons x t=>
   rw[hq] at h0;exact⟨t,by rw[show x=0 from h0]⟩
 have xa:t.length=32:=by rw[ht] at hd;simpa using hd
 have Y1:k.data.drop 1=t:=by rw[ht];rfl
 rw[Y1] at ga;refine⟨bB t,(qE ga).2,(qE ga).1,?_,?_,rfl,rfl⟩
 · have:=F1 t
   rw[xa] at this;rw[ht,this]
 show iE k=_;rw[iE,if_pos hp,BS,Y1]
theorem zi {k:HKey} (hk:I3 k) (hp:k.priv=true):I3 { k with data:=iE k }:=
 ⟨tB hk.ok (iB hk.ok),(xN hk.ok hk.good hp).facts.2.2.2.1,hk.root⟩
theorem xO {a b:HKey} (h:Bare a b) {m:List UInt8} {k:Nat} (hk:k<ar) (ho:jG (bB (a.data.drop 1)) (bB m%ar) k=true):
 0<lJ k∧lJ k<ar∧0<nK (bB (a.data.drop 1)) (bB m%ar) k∧nK (bB (a.data.drop 1)) (bB m%ar) k<ar∧mR (fH b.data) (bB m%ar) (lJ k) (nK (bB (a.data.drop 1)) (bB m%ar) k)=true∧k≠0:=by
 obtain⟨d,h0,hd,ha,hb,_,_⟩:=h
 have hs:bB (a.data.drop 1)=d:=by
  rw[ha];exact jn d 32 (Nat.lt_trans hd mP)
 have Di:fH b.data=eC d:=by
  rw[hb];exact(mK (mQ d) (qB h0 hd)).2
 rw[hs] at ho⊢;have oU:=ho;simp only[jG,adx,adB] at oU;rw[Di];exact⟨Nat.pos_of_ne_zero oU.2.1,Nat.mod_lt _ (Nat.lt_trans (by decide) dV),Nat.pos_of_ne_zero oU.2.2,y5 _ _ _,B0 hk ho,oU.1⟩
theorem Cs {a b:HKey} (h:Bare a b):eu b.data=true:=by
 have hf:=h.facts;have hg:=hf.2.2.2.1;rw[HKey.good,if_neg (by rw[hf.2.1];decide)] at hg;exact hg
theorem Ct {a b:HKey} (h:Bare a b):dE (a.data.drop 1)=true:=by
 have hf:=h.facts;have hg:=hf.2.2.1;rw[HKey.good,if_pos hf.1] at hg;exact hg
theorem Rj {k:HKey} (hk:I3 k) (hp:k.priv=true) {p:List Nat} (hpp:∀n∈p,n<2147483648) {fs gs:Nat→List UInt8} (hf:∀i,(fs i).length=4) (hg:∀i,(gs i).length=4):
 (cI bF k p fs).1=(cI bF { k with data:=iE k } p gs).1∧((cI bF k p fs).1=0→Bare (cI bF k p fs).2 (cI bF { k with data:=iE k } p gs).2∧I3 (cI bF k p fs).2∧I3 (cI bF { k with data:=iE k } p gs).2):=by
 obtain⟨h1,h2⟩:=xH bF p fs gs (xN hk.ok hk.good hp) hpp;have PL:∀n∈p,n<4294967296:=fun n hn=>Nat.lt_trans (hpp n hn) (by decide)
 exact⟨h1,fun h0=>⟨h2 h0,qH dK p fs hk hf PL h0,qH dK p gs (zi hk hp) hg PL (h1.symm.trans h0)⟩⟩
theorem tC {k:HKey} (hk:I3 k) {p:List Nat} (PL:∀n∈p,n<4294967296) {fs:Nat→List UInt8} (hf:∀i,(fs i).length=4):(cI bF k p fs).2.Ok:=by
 by_cases h0:(cI bF k p fs).1=0
 · exact(qH dK p fs hk hf PL h0).ok
 have:∀(p:List Nat) (fs:Nat→List UInt8) (k:HKey),(cI bF k p fs).1≠0→(cI bF k p fs).2=aP:=by
  intro p
  induction p with
  |nil=>intro fs k h;exact absurd rfl h
  |cons n r ih=>
   intro fs k h;rw[cI] at h⊢;split
   · rename_i h1
     rw[if_pos h1] at h;exact ih _ _ h
   rfl
 rw[this p fs k h0];exact aC
end Go.Proofs.YtnlkdheaohocnaaGreatDoor
namespace Go.Proofs.YtnlkdheaohocnaaGreatDoor
def wu:List Nat→Nat
 |[]=>0
 |a::l=>a+4294967296*wu l
theorem Rl (j:Nat):2^(32*(j+1))=4294967296*2^(32*j):=by
 rw[Nat.mul_add,Nat.pow_add,Nat.mul_comm]
theorem mh (a b:List Nat):wu (a++b)=wu a+2^(32*a.length)*wu b:=by
 induction a with
 |nil=>simp[wu]
 |cons x a ih=>rw[adh,wu,ih,wu,adz,Rl,Nat.mul_add,Nat.mul_assoc,Nat.add_assoc]
theorem vh (n:Nat):wu (List.replicate n 0)=0:=by
 induction n with
 |zero=>rfl
 |succ n ih=>rw[List.replicate_succ,wu,ih]
theorem ER:∀(T:List Nat) (j:Nat) (h:j<T.length) (v:Nat),wu (T.set j v)+T[j]*2^(32*j)=wu T+v*2^(32*j)
 |x::T,0,_,v=>by simp[wu];omega
 |x::T,j+1,h,v=>by
  have hj:j<T.length:=by simpa using h
  have ih:=ER T j hj v;simp only[List.set_cons_succ,wu,List.getElem_cons_succ,Rl];have e1:T[j]*(4294967296*2^(32*j))=4294967296*(T[j]*2^(32*j)):=by rw[Nat.mul_left_comm]
  have e2:v*(4294967296*2^(32*j))=4294967296*(v*2^(32*j)):=by rw[Nat.mul_left_comm]
  rw[e1,e2];omega
theorem xQ:∀(T:List Nat),(∀x∈T,x<4294967296)→wu T<2^(32*T.length)
 |[],_=>by simp[wu]
 |x::T,h=>by
  have ih:=xQ T (fun y hy=>h y (by simp[hy]));have hx:=h x (by simp);rw[wu,adz,Rl];omega
theorem lv (T:List Nat) (k:Nat) (h:k<T.length):wu (T.take (k+1))=wu (T.take k)+T[k]*2^(32*k):=by
 rw[adK h,mh,adq,Nat.min_eq_left (by omega),wu,wu];simp[Nat.mul_comm]
theorem zk (T:List Nat) (j:Nat):wu T=wu (T.take j)+2^(32*(T.take j).length)*wu (T.drop j):=by
 rw[←mh,List.take_append_drop]
def nu:Nat→Nat→List Nat
 |0,_=>[]
 |k+1,n=>n%4294967296::nu k (n/4294967296)
theorem bg:∀k n,(nu k n).length=k
 |0,_=>rfl
 |k+1,n=>by rw[nu,adz,bg]
theorem nR:∀k n,∀x∈nu k n,x<4294967296
 |0,_,x,h=>by cases h
 |k+1,n,x,h=>by
  rw[nu] at h;rcases List.mem_cons.1 h with rfl|h
  · exact Nat.mod_lt _ (by decide)
  exact nR k _ x h
theorem lA:∀k n,n<2^(32*k)→wu (nu k n)=n
 |0,n,h=>by
  have:n=0:=by simpa using h
  rw[this];rfl
 |k+1,n,h=>by
  rw[Rl] at h;rw[nu,wu,lA k _ (by rw[Nat.div_lt_iff_lt_mul (by omega),Nat.mul_comm];exact h)];omega
theorem Gi:∀(T:List Nat),(∀x∈T,x<4294967296)→nu T.length (wu T)=T
 |[],_=>rfl
 |x::T,h=>by
  have hx:=h x (by simp);rw[adz,wu,nu,show (x+4294967296*wu T)%4294967296=x by omega,show (x+4294967296*wu T)/4294967296=wu T by omega,Gi T (fun y hy=>h y (by simp[hy]))]
theorem r0 (T:List Nat) (j:Nat) (h:j<T.length) (p c c' t':Nat) (he:t'+4294967296*c'=T[j]+p+c):wu (T.set j t')+c'*2^(32*(j+1))=wu T+p*2^(32*j)+c*2^(32*j):=by
 have h1:=ER T j h t';rw[Rl];have h2:(t'+4294967296*c')*2^(32*j)=(T[j]+p+c)*2^(32*j):=by rw[he]
 rw[Nat.add_mul,Nat.add_mul,Nat.add_mul] at h2;have e1:c'*(4294967296*2^(32*j))=4294967296*c'*2^(32*j):=by rw[←Nat.mul_assoc,Nat.mul_comm c']
 rw[e1];omega
theorem Jl (T X Y:List Nat) (k d b b':Nat) (hT:k<T.length) (hX:k<X.length) (hY:k<Y.length) (hd:d+Y[k]+b=X[k]+b'*4294967296)
 (h:wu (T.take k)+wu (Y.take k)=wu (X.take k)+b*2^(32*k)):wu ((T.set k d).take (k+1))+wu (Y.take (k+1))=wu (X.take (k+1))+b'*2^(32*(k+1)):=by
 have h1:wu ((T.set k d).take (k+1))=wu (T.take k)+d*2^(32*k):=by
  rw[lv _ k (by simpa using hT),List.take_set_of_le (by omega),List.getElem_set_self]
 rw[h1,lv Y k hY,lv X k hX,Rl];have h2:(d+Y[k]+b)*2^(32*k)=(X[k]+b'*4294967296)*2^(32*k):=by rw[hd]
 rw[Nat.add_mul,Nat.add_mul,Nat.add_mul] at h2;rw[←Nat.mul_assoc];omega
theorem PS (X Y:List Nat) (i:Nat) (hX:i<X.length) (hY:i<Y.length) (bX:∀x∈X,x<4294967296) (bY:∀x∈Y,x<4294967296) (h:X.drop (i+1)=Y.drop (i+1)) (bN:X[i]≠Y[i]):(wu X<wu Y)↔X[i]<Y[i]:=by
 have e1:=zk X i;have e2:=zk Y i;rw[List.drop_eq_getElem_cons hX,wu] at e1;rw[List.drop_eq_getElem_cons hY,wu,←h] at e2;have l1:=xQ (X.take i) (fun x hx=>bX x (List.mem_of_mem_take hx));have l2:=xQ (Y.take i) (fun x hx=>bY x (List.mem_of_mem_take hx));have t1:(X.take i).length=i:=by rw[adq];omega
 have t2:(Y.take i).length=i:=by rw[adq];omega
 rw[t1] at e1 l1;rw[t2] at e2 l2;generalize wu (X.drop (i+1))=z at*;generalize X[i]=x at*;generalize Y[i]=y at*;generalize wu (X.take i)=a at*;generalize wu (Y.take i)=b at*;generalize 2^(32*i)=p at*;rw[e1,e2];constructor
 · intro hl
   rcases Nat.lt_or_ge x y with hh|hh
   · exact hh
   exfalso;have:y+4294967296*z+1≤x+4294967296*z:=by omega
   have:=Nat.mul_le_mul_left p this;rw[Nat.mul_add,Nat.mul_one] at this;omega
 intro hl;have:x+4294967296*z+1≤y+4294967296*z:=by omega
 have:=Nat.mul_le_mul_left p this;rw[Nat.mul_add,Nat.mul_one] at this;omega
end Go.Proofs.YtnlkdheaohocnaaGreatDoor
namespace Go.Proofs.YtnlkdheaohocnaaGreatDoor
open Go Go.RowKit Go.Shelf
def R8 (n:Nat):Array Value:=(dB (nu 8 n)).toArray
theorem Gj (n:Nat):(R8 n).size=8:=by simp[R8,dB,bg]
theorem ec (T:List Nat):(dB T).toArray.all (·.oneCell')=true:=by simp[dB];intro x _;rfl
theorem vj:(Tryz.prog.info? 92).map (·.size)=some 8:=by kernel_rfl
theorem zl {T:List Nat} (h:T.length=8):(Tryz.prog.info? 92).map (·.size)=some (dB T).toArray.size:=by
 have:(dB T).toArray.size=8:=by simp[dB,h]
 rw[this];exact vj
theorem PT (T:List Nat) (k v:Nat):(dB T).toArray.setIfInBounds k (.int .u32 (v:Int))=(dB (T.set k v)).toArray:=by
 apply Array.ext';simp[dB,List.map_set]
theorem cf {w:World} {g t k:Nat} {T:List Nat} (h:w.heap[g]?=some (.cells (dB T).toArray t (0,0))) (hk:k<T.length):w.cell? ⟨g,k,none⟩=some (.int .u32 (T[k]:Int)):=by
 rw[adn _ _ _ _ _ (0,0) h];simp[dB,hk]
theorem m7 {w:World} {g t k v:Nat} {T:List Nat} (h:w.heap[g]?=some (.cells (dB T).toArray t (0,0))):(w.setCell ⟨g,k,none⟩ (.int .u32 (v:Int))).heap[g]?=some (.cells (dB (T.set k v)).toArray t (0,0)):=by
 rw[heap_setCell_same w g k _ _ _ h,PT]
theorem cp {w:World} {g:Nat} {o:Obj} (h:w.heap[g]?=some o):g<w.heap.size:=(adg.1 h).1
theorem cC {W0 W:World} {g:Nat} (h:W0.grownBy W (some g)) (o:Nat) (v:Value):W0.grownBy (W.setCell ⟨g,o,none⟩ v) (some g) where
 os:=h.os
 tape:=h.tape
 output:=h.output
 size:=by simpa using h.size
 block:=fun k hk bN=>(Below.heap_setCell _ _ _ _ (show k≠g from fun e=>bN (by rw[e]))).trans (h.block k hk bN)
theorem eO {W0 W:World} {r:Option Nat} (h:W0.grownBy W r):W0.grownBy W.drew r:=⟨h.os,h.tape,h.output,h.size,h.block⟩
theorem dh (W:World) (r:Option Nat):W.grownBy W r:=⟨rfl,rfl,rfl,adi _,fun _ _ _=>rfl⟩
theorem nS (x y:Nat) (hx:x<2^256) (hy:y<2^256) (w:World):
 Calls Tryz.prog 86 #[.agg (R8 x),.agg (R8 y)] w fun e W'=>e=.returned (.bool (decide (x<y)))∧Below w.heap.size w W':=by
 have bx:Tryz.prog.follows .mixedOrders=true:=by kernel_rfl
 obtain⟨X,hX⟩:=ae (nu 8 x);obtain⟨Y,hY⟩:=ae (nu 8 y);have N6:X.length=8:=by rw[hX,bg]
 have hYl:Y.length=8:=by rw[hY,bg]
 have Ux:Hid (∀t∈X,t<4294967296):=ab (by rw[hX];exact nR 8 x);have Uy:Hid (∀t∈Y,t<4294967296):=ab (by rw[hY];exact nR 8 y);have Rm:Hid (wu X=x):=ab (by rw[hX];exact lA 8 x hx);have Rn:Hid (wu Y=y):=ab (by rw[hY];exact lA 8 y hy);rw[R8,R8,←hX,←hY];have wO:=ab N6;have M0:=ab hYl;obtain⟨A,hA⟩:∃A,A=(dB X).toArray:=⟨_,rfl⟩;obtain⟨B,hB⟩:∃B,B=(dB Y).toArray:=⟨_,rfl⟩;rw[←hA,←hB];obtain⟨W0,bD⟩:∃W0,W0=(w.alloc (.cells A 92)).alloc (.cells B 92):=⟨_,rfl⟩;have de:Below w.heap.size w W0:=by rw[bD];exact((adl _ w).alloc (adi _) _).alloc (by simp) _
 have gX:W0.heap[w.heap.size]?=some (.cells (dB X).toArray 92 (0,0)):=by
  rw[bD,←hA];exact dU (adk w _)
 have gY:W0.heap[w.heap.size+1]?=some (.cells (dB Y).toArray 92 (0,0)):=by
  rw[bD,←hB];have:=adk (w.alloc (.cells A 92)) (.cells B 92);rw[adD] at this;exact this
 obtain⟨G,hG⟩:=ae w.heap.size;rw[←hG] at gX gY;have GX:=ab gX;have GY:=ab gY;have wC:=ab bD;have HG:=ab hG;have qI:=ab de;clear hX hY N6 hYl hA hB bD de gX gY hG hx hy;go_enter Tryz.func86,Tryz.ntmps86;go_wp2_with (first|(refine wpList_boxTo rfl 92 (.tmp 0) rfl _ rfl w.heap.size rfl A rfl ?_)|(refine wpList_boxTo rfl 92 (.tmp 1) rfl _ rfl (w.heap.size+1) (by simp) B rfl ?_));refine(show W0=_ from wC.out)▸?_;rw[←HG.out];go_loopw [5] (fun i wr=>W0.grownBy wr none∧∃k:Nat,k≤8∧i=.int .i64 ((k:Int)-1)∧Hid (X.drop k=Y.drop k)) (fun i _=>(intOf i+1).toNat)
 case atStart=>exact⟨dh _ _,8,adi _,by go_num,ab (by rw[List.drop_eq_nil_of_le (by rw[wO.out];exact adi _),List.drop_eq_nil_of_le (by rw[M0.out];exact adi _)])⟩
 case round=>
  obtain⟨hg,k,hk,rfl,HD⟩:=hrel;have Jm:Hid (Below w.heap.size w wr):=ab (qI.out.grown hg qI.out.size (fun _ h=>by cases h));have gX:=(hg.block G (cp GX.out) (by simp)).trans GX.out;have gY:=(hg.block (G+1) (cp GY.out) (by simp)).trans GY.out;have Hg:=ab hg;clear hg
  by_cases h0:k=0
  · subst h0
    have zD:X=Y:=by have:=HD.out;simpa using this
    have CU:decide (x<y)=false:=adI (by rw[←Rm.out,←Rn.out,zD];exact Nat.lt_irrefl _);have Hno:=ab CU;clear zD CU;go_wp2_with fail;go_ret;exact⟨by rw[Hno.out];rfl,Jm.out⟩
  obtain⟨j,rfl⟩:∃j,k=j+1:=⟨k-1,by omega⟩;have hjX:j<X.length:=by rw[wO.out];omega
  have Ro:j<Y.length:=by rw[M0.out];omega
  obtain⟨xj,ZZ⟩:∃xj,xj=X[j]:=⟨_,rfl⟩;obtain⟨yj,Z0⟩:∃yj,yj=Y[j]:=⟨_,rfl⟩;have cX:=cf gX hjX;have cY:=cf gY Ro;rw[←ZZ] at cX;rw[←Z0] at cY;have VI:(((j+1:Nat):Int)-1)=(j:Int):=by omega
  rw[VI];have NT:j<8:=by omega
  have VF:Hid (xj≠yj→((x<y)↔xj<yj)):=ab (fun bN=>by
   rw[←Rm.out,←Rn.out,ZZ,Z0];exact PS X Y j hjX Ro Ux.out Uy.out HD.out (by rw[←ZZ,←Z0];exact bN))
  have Heq:Hid (xj=yj→X.drop j=Y.drop j):=ab (fun he=>by
   rw[List.drop_eq_getElem_cons hjX,List.drop_eq_getElem_cons Ro,HD.out,←ZZ,←Z0,he])
  clear ZZ Z0 hjX Ro VI h0 hk gX gY;go_wp2_with fail;refine aE [(0,0),(1,0),(2,1),(3,0),(4,0),(5,1),(6,0)] 7 bx (by kernel_rfl) (by intro c a d v w h;cases d<;>exact h) ?_
  repeat ((first|(refine ao rfl (fun K hK=>?_))|(refine aD rfl (fun K hK=>?_)));go_simp;(first|(refine hK _ ?_)|(simp only[IntWalk.iteOmega];go_simp;refine hK _ ?_) );clear hK K;(try go_bits))
  refine aB ?_
  by_cases he:xj=yj
  · have heI:((xj:Int)==(yj:Int))=true:=beq_iff_eq.2 (by rw[he])
    have HE:=ab (Heq.out he);clear he;go_wp2_with fail;exact⟨⟨eO Hg.out,j,by omega,rfl,HE⟩,by simp only[intOf];omega⟩
  have heI:((xj:Int)==(yj:Int))=false:=beq_eq_false_iff_ne.2 (by omega);have HL:=ab (VF.out he);clear he;go_wp2_with fail;refine aE [(0,0),(1,0),(2,1),(3,0),(4,0),(5,1),(6,0),(7,0)] 8 bx (by kernel_rfl) (by intro c a d v w h;cases d<;>exact h) ?_
  repeat ((first|(refine ao rfl (fun K hK=>?_))|(refine aD rfl (fun K hK=>?_)));go_simp;(first|(refine hK _ ?_)|(simp only[IntWalk.iteOmega];go_simp;refine hK _ ?_) );clear hK K;(try go_bits))
  refine aB ?_;go_wp2_with fail;go_ret;refine⟨?_,Jm.out.drew.drew⟩;rw[decide_eq_decide.2 HL.out];rfl
theorem Jn {T X Y:List Nat} {x y bo:Nat} (lT:T.length=8) (lX:X.length=8) (lY:Y.length=8) (bT:∀t∈T,t<4294967296) (hb:bo≤1)
 (h:wu (T.take 8)+wu (Y.take 8)=wu (X.take 8)+bo*2^(32*8)) (hx:wu X=x) (hy:wu Y=y) (lx:x<2^256) (ly:y<2^256):T=nu 8 ((x+2^256-y)%2^256):=by
 rw[ady (by omega),ady (by omega),ady (by omega),hx,hy] at h;have ht:=xQ T bT;rw[lT] at ht
 have e:wu T=(x+2^256-y)%2^256:=by
  rw[show 32*8=256 from rfl] at h ht;omega
 rw[←e,←lT,Gi T bT]
theorem nT {T:List Nat} (h:∀t∈T,t<4294967296) {d:Nat} (hd:d<4294967296) (k:Nat):∀t∈T.set k d,t<4294967296:=by
 intro t ht;rcases List.mem_or_eq_of_mem_set ht with h1|h1
 · exact h t h1
 omega
theorem mi (x y:Nat) (hx:x<2^256) (hy:y<2^256) (w:World):
 Calls Tryz.prog 90 #[.agg (R8 x),.agg (R8 y)] w fun e W'=>e=.returned (.agg (R8 ((x+2^256-y)%2^256)))∧Below w.heap.size w W':=by
 have bx:Tryz.prog.follows .mixedOrders=true:=by kernel_rfl
 obtain⟨X,hX⟩:=ae (nu 8 x);obtain⟨Y,hY⟩:=ae (nu 8 y);have wO:Hid (X.length=8):=ab (by rw[hX,bg]);have M0:Hid (Y.length=8):=ab (by rw[hY,bg]);have Ux:Hid (∀t∈X,t<4294967296):=ab (by rw[hX];exact nR 8 x);have Uy:Hid (∀t∈Y,t<4294967296):=ab (by rw[hY];exact nR 8 y);have Rm:Hid (wu X=x):=ab (by rw[hX];exact lA 8 x hx);have Rn:Hid (wu Y=y):=ab (by rw[hY];exact lA 8 y hy);have Rp:Hid (x<2^256∧y<2^256):=ab ⟨hx,hy⟩;rw[R8,R8,←hX,←hY];obtain⟨A,hA⟩:∃A,A=(dB X).toArray:=⟨_,rfl⟩;obtain⟨B,hB⟩:∃B,B=(dB Y).toArray:=⟨_,rfl⟩;rw[←hA,←hB];obtain⟨Z,hZ⟩:∃Z:List Nat,Z=[0,0,0,0,0,0,0,0]:=⟨_,rfl⟩;obtain⟨W0,bD⟩:∃W0,W0=(((w.alloc (.cells A 92)).alloc (.cells B 92)).alloc (.cells (dB [0,0,0,0,0,0,0,0]).toArray 92)).alloc (.cells (dB [0,0,0,0,0,0,0,0]).toArray 92):=⟨_,rfl⟩;have de:Below w.heap.size w W0:=by rw[bD];exact((((adl _ w).alloc (adi _) _).alloc (by simp) _).alloc (by simp;omega) _).alloc (by simp;omega) _
 have h4:=l6 w (.cells A 92) (.cells B 92) (.cells (dB [0,0,0,0,0,0,0,0]).toArray 92) (.cells (dB [0,0,0,0,0,0,0,0]).toArray 92);rw[←bD,←hZ] at h4;obtain⟨gX,gY,gO,gT⟩:=h4;obtain⟨G,hG⟩:=ae w.heap.size;rw[←hG] at gX gY gO gT;rw[hA] at gX;rw[hB] at gY;have jh:W0.heap.size=G+4:=by rw[bD,hG];simp
 have GX:=ab gX;have GY:=ab gY;have GO:=ab gO;have GT:=ab gT;have wC:=ab bD;have HG:=ab hG;have qI:=ab de;have HZ:=ab hZ;have lM:=ab jh;clear hX hY hA hB bD de gX gY gO gT hG hx hy hZ jh;go_enter Tryz.func90,Tryz.ntmps90;go_wp2_with fail;refine(show W0=_ from wC.out)▸?_;rw[←HG.out]
 go_loopw [6,7] (fun b i wr=>∃(k bo:Nat) (T:List Nat),k≤8∧i=.int .i64 k∧b=.int .i64 bo∧bo≤1∧Hid (T.length=8∧(∀t∈T,t<4294967296)∧wu (T.take k)+wu (Y.take k)=wu (X.take k)+bo*2^(32*k))∧
  wr.heap[G+1+1+1]?=some (.cells (dB T).toArray 92 (0,0))∧W0.grownBy wr (some (G+1+1+1))) (fun _ i _=>8-(intOf i).toNat)
 case atStart=>exact⟨0,0,Z,by omega,rfl,rfl,by omega,ab ⟨by rw[HZ.out];rfl,by rw[HZ.out];simp,by simp[wu]⟩,GT.out,dh _ _⟩
 case round=>
  obtain⟨k,bo,T,hk,rfl,rfl,VE,HT,gT,hg⟩:=hrel;have gX:=(hg.block G (by rw[lM.out];omega) (by simp;omega)).trans GX.out;have gY:=(hg.block (G+1) (by rw[lM.out];omega) (by simp)).trans GY.out;have gO:=(hg.block (G+1+1) (by rw[lM.out];omega) (by simp)).trans GO.out;have vD:=HT.out.1
  by_cases aV:k<8
  · have hkX:k<X.length:=by rw[wO.out];exact aV
    have hkY:k<Y.length:=by rw[M0.out];exact aV
    obtain⟨xk,oG⟩:∃xk,xk=X[k]:=⟨_,rfl⟩;obtain⟨yk,FM⟩:∃yk,yk=Y[k]:=⟨_,rfl⟩;have Z1:xk<4294967296:=by rw[oG];exact Ux.out _ (List.getElem_mem _)
    have Z2:yk<4294967296:=by rw[FM];exact Uy.out _ (List.getElem_mem _)
    have cX:=cf gX hkX;have cY:=cf gY hkY;rw[←oG] at cX;rw[←FM] at cY;have zT:=dQ gT k;obtain⟨tk,vV⟩:∃tk:Nat,tk=T[k]'(by omega):=⟨_,rfl⟩
    have cT:=cf gT (k:=k) (by omega);rw[←vV] at cT;have bG:∀d b',d+yk+bo=xk+b'*4294967296→wu ((T.set k d).take (k+1))+wu (Y.take (k+1))=wu (X.take (k+1))+b'*2^(32*(k+1)):=fun d b' h=>Jl T X Y k d bo b' (by omega) hkX hkY (by rw[←oG,←FM];exact h) HT.out.2.2
    have ju:=ab bG;have HgT:=ab gT;have Hg:=ab hg;clear gX gY gO gT hg oG FM vV vD bG hkX hkY;go_wp2_with fail;refine aE [(0,0),(1,0),(2,1),(3,0),(4,0),(5,0),(6,1),(7,0),(8,0),(9,0),(10,0),(11,0)] 12 bx (by kernel_rfl) (by intro c a d v w h;cases d<;>exact h) ?_
    repeat ((first|(refine ao rfl (fun K hK=>?_))|(refine aD rfl (fun K hK=>?_)));go_simp;(first|(refine hK _ ?_) );clear hK K;(try go_bits))
    refine aB ?_
    by_cases sV:xk<yk+bo
    · obtain⟨d,hd⟩:∃d:Nat,d=xk+4294967296-yk-bo:=⟨_,rfl⟩
      have ES:d<4294967296:=by omega
      have HS:=ab (nT HT.out.2.1 ES k);have hdI:(xk:Int)-(yk:Int)-(bo:Int)+4294967296=(d:Int):=by omega
      have hn:decide ((xk:Int)-(yk:Int)-(bo:Int)<0)=true:=adA (by omega);have HF:=ab (ju.out d 1 (by omega));clear hd sV;go_wp2_with fail;exact⟨⟨k+1,1,T.set k d,by omega,by go_num,rfl,by omega,ab ⟨by rw[List.length_set];exact HT.out.1,HS.out,HF.out⟩,by rw[heap_drew];exact m7 HgT.out,eO (cC Hg.out _ _)⟩,by simp only[intOf];omega⟩
    obtain⟨d,hd⟩:∃d:Nat,d=xk-yk-bo:=⟨_,rfl⟩;have ES:d<4294967296:=by omega
    have HS:=ab (nT HT.out.2.1 ES k);have hdI:(xk:Int)-(yk:Int)-(bo:Int)=(d:Int):=by omega
    have HF:=ab (ju.out d 0 (by omega));clear hd sV;rw[hdI];go_wp2_with fail;exact⟨⟨k+1,0,T.set k d,by omega,by go_num,rfl,by omega,ab ⟨by rw[List.length_set];exact HT.out.1,HS.out,HF.out⟩,by rw[heap_drew];exact m7 HgT.out,eO (cC Hg.out _ _)⟩,by simp only[intOf];omega⟩
  obtain rfl:k=8:=by omega
  have Yk:=Jn HT.out.1 wO.out M0.out HT.out.2.1 VE HT.out.2.2 Rm.out Rn.out Rp.out.1 Rp.out.2;have HTe:=ab Yk;have nn:=ab (zl HT.out.1);have Jm:Hid (Below w.heap.size w wr):=ab (qI.out.grown hg qI.out.size (fun _ h=>by cases h;rw[HG.out];omega));have M1:=ab gO;have Uz:=ab gT;have HZs:Hid ((dB Z).toArray.size=(dB T).toArray.size):=ab (by simp[dB,HT.out.1,HZ.out]);clear Yk hg gX gY gO gT;go_wp2_with (first|(refine adw rfl 92 (.tmp 5) rfl (G+1+1+1) rfl 92 (dB T).toArray (0,0) _ Uz.out Tryz.underlying92 rfl nn.out ?_)|(refine ado rfl 92 (.tmp 4) (.tmp 32) rfl (G+1+1) (dB T).toArray rfl rfl 92 _ M1.out nn.out HZs.out (ec _) ?_));refine adm (v:=.agg (dB T).toArray) ?_ rfl ⟨by rw[HTe.out];rfl,au Jm.out (by rw[HG.out];omega) _⟩;exact adr rfl _ _ (G+1+1) 92 (dB T).toArray (0,0) _ rfl (adt _ _ _ _ _ _ M1.out) Tryz.underlying92 rfl nn.out
end Go.Proofs.YtnlkdheaohocnaaGreatDoor
