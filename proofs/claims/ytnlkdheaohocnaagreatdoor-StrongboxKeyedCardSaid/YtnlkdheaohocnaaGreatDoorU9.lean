/- Whoever walks down with the secret signs what whoever walks down without it verifies, and the text of either walks the same way (StrongboxKeyed). No condition. -/
import Derived.Test.YtnlkdheaohocnaaGreatDoorU1
import Derived.Test.YtnlkdheaohocnaaGreatDoorU8
import Derived.Test.YtnlkdheaohocnaaGreatDoorU5
set_option maxRecDepth 1000000
set_option maxHeartbeats 16000000
set_option linter.unusedVariables false
set_option linter.unusedSimpArgs false
namespace Go.Proofs.YtnlkdheaohocnaaGreatDoor
open Go.RowKit Go.Shelf
attribute [local go_sem] Oper.semAt_some
def jL (n m:Nat):List Nat:=(List.range n).map fun j=>m*j
theorem GU (F:Fence) (hF:∀k,F.fn k) (nf:F.round=none) (n:Nat) (hn:1≤n) (l Bs Bn:Nat) (K:World→World→Prop) (WK:∀W,K W W) (R4:∀{A B C:World},K A B→K B C→K A C) (JV:∀{W W':World},K W W'→W'.heap[Bs]?=W.heap[Bs]?∧W'.heap[Bn]?=W.heap[Bn]?)
 (hKd:∀W:World,K W W.drew) (b o cap m q:Nat) (hm:0<m) (R9:m*q≤cap) (hq:m*q≤4096) {α:Type} (enc:α→Nat) (DB:∀j,j<q→∃x,enc x=m*j) (J Jx:List α→World→Prop)
 (hY:∀pre x W,J pre W→pre.length<q→YieldAt F (n-1) Tryz.prog l #[Value.slice (some ⟨b,o+enc x,none⟩) m m] W fun e W'=>
  (e=.returned (.bool true)∧J (pre++[x]) W'∧K W W')∨(e=.returned (.bool false)∧Jx (pre++[x]) W'))
 (hJd:∀pre W,J pre W→J pre W.drew)
 (W:World) (rf:W.cell? ⟨Bs,0,none⟩=some (.slice (some ⟨b,o,none⟩) (m*q) cap)) (hBn:W.cell? ⟨Bn,0,none⟩=some (.int .i64 m)) (h0:J [] W):
 CallsIn F n Tryz.prog 116 #[.func (.yield l) #[] #[],.pointer (some ⟨Bs,0,none⟩),.pointer (some ⟨Bn,0,none⟩)] W fun e W'=>(∃v,e=.returned v)∧
  ((∃ys,ys.map enc=jL q m∧J ys W')∨(∃pre,(∃k,k≤q∧pre.map enc=jL k m)∧Jx pre W')):=by
 refine callsIn_of_wp Tryz.func116 rfl (hF _) ?_ nf;simp only[Tryz.ntmps116,List.size_toArray,adz,List.length_nil,Nat.reduceAdd,Nat.reduceSub,Array.replicate_succ,Array.replicate_zero,List.push_toArray,List.append_toArray,adj,adh]
 gi_wp2
 gi_loopw [4] (fun i wr=>∃k:Nat,k≤q∧i=.int .i64 ((m*k:Nat):Int)∧(∃pre,pre.map enc=jL k m∧J pre wr)∧K W wr)
  (fun i _=>(m*q-(intOf i).toNat))
 case atStart=>exact⟨0,adF _,rfl,⟨[],rfl,h0⟩,WK _⟩
 case round=>
  obtain⟨k,hk,rfl,⟨pre,sM,WL⟩,zG⟩:=hrel;have DC:=ab sM;have pe:pre.length=k:=by have:=congrArg List.length sM;simpa [jL] using this
  have Vn:=(World.cell?_of_block (a:=⟨Bs,0,none⟩) (JV zG).1).trans rf;have KL:=(World.cell?_of_block (a:=⟨Bn,0,none⟩) (JV zG).2).trans hBn;obtain⟨p,hp⟩:∃p,p=m*k:=⟨_,rfl⟩;obtain⟨e,he⟩:∃e,e=m*q:=⟨_,rfl⟩;rw[←he] at Vn R9 hq;rw[←hp];clear sM
  by_cases aV:k<q
  · have Qu:p+m≤e:=by
     rw[hp,he,←Nat.mul_succ];exact Nat.mul_le_mul_left m aV
    have aco:p<e:=by omega
    have sH:¬(e-p<m):=by omega
    have acp:(e:Int)-(p:Int)=((e-p:Nat):Int):=by omega
    obtain⟨x,hx⟩:=DB k aV;obtain⟨fn,tmps,assign,body,hy,hR⟩:=hY _ x wr.drew (hJd _ _ WL) (by rw[pe];exact aV);rw[hx,←hp] at hy;have Hx:=ab hx;have Hp:=ab hp;have He:=ab he;have R6:=zG;have bx:Tryz.prog.follows .mixedOrders=true:=by kernel_rfl
    clear hx pe hp he rf hBn zG
    gi_wp2
    refine dq [(0,1),(1,1),(2,0),(3,0),(4,0),(5,0),(6,0)] 7 (fun _=>hF _) bx (by kernel_rfl) (by intro c a d v w h;cases d<;>exact h) ?_
    repeat ((first|(refine ao rfl (fun K hK=>?_))|(refine aD rfl (fun K hK=>?_)));go_simp;(first|(refine hK _ ?_)|(simp only[IntWalk.iteOmega];go_simp;refine hK _ ?_) );clear hK K;(try go_bits))
    refine aB ?_
    gi_wp2
    refine hR.mono ?_;rintro e3 W3 (⟨rfl,hJ3,JW⟩|⟨rfl,R7⟩)
    · have acq:=(World.cell?_of_block (a:=⟨Bn,0,none⟩) (JV JW).2).trans KL
      gi_wp2
      go_roundw
      case rel=>
       refine⟨k+1,by omega,?_,⟨_,by rw[List.map_append,DC.out];simp[jL,List.range_succ,Hx.out,Hp.out],hJ3⟩,R4 (R4 R6 (hKd _)) JW⟩;have:=Hp.out;congr 1;rw[Nat.mul_succ];omega
      case measure=>rw[←He.out];simp[intOf];omega
    gi_wp2
    refine adm (results_none rfl _ _ _) rfl ?_;exact⟨⟨_,rfl⟩,.inr ⟨_,⟨k+1,by omega,by rw[List.map_append,DC.out];simp[jL,List.range_succ,Hx.out,Hp.out]⟩,R7⟩⟩
  obtain rfl:k=q:=by omega
  gi_wp2
  go_end0;exact⟨⟨_,rfl⟩,.inl ⟨_,DC.out,WL⟩⟩
theorem AF (F:Fence) (hF:∀k,F.fn k) (nf:F.round=none) (n:Nat) (a:Option Addr) (len cap m:Nat) (hm:0<m) (w:World):
 CallsIn F n Tryz.prog 98 #[.slice a len cap,.int .i64 m] w fun e w'=>e=.returned (.func (.func 116) #[] #[.pointer (some ⟨w.heap.size,0,none⟩),.pointer (some ⟨w.heap.size+1,0,none⟩)])∧w'=(w.alloc (.cells #[.slice a len cap] 22)).alloc (.cells #[.int .i64 m] 3):=by
 refine callsIn_of_wp Tryz.func98 rfl (hF _) ?_ nf;simp only[Tryz.ntmps98,List.size_toArray,adz,List.length_nil,Nat.reduceAdd,Nat.reduceSub,Array.replicate_succ,Array.replicate_zero,List.push_toArray,List.append_toArray,adj,adh]
 gi_wp2
 go_ret;exact⟨by simp,rfl⟩
def KeepC (n₀ Bs gA:Nat) (W W':World):Prop:=Below n₀ W W'∧W'.heap[Bs]?=W.heap[Bs]?∧W'.heap[Bs+1]?=W.heap[Bs+1]?∧W'.heap[gA]?=W.heap[gA]?
theorem KeepC.refl (n₀ Bs gA:Nat) (W:World):KeepC n₀ Bs gA W W:=⟨adl _ _,rfl,rfl,rfl⟩
theorem KeepC.trans {n₀ Bs gA:Nat} {a b c:World} (h:KeepC n₀ Bs gA a b) (k:KeepC n₀ Bs gA b c):KeepC n₀ Bs gA a c:=⟨h.1.trans k.1,k.2.1.trans h.2.1,k.2.2.1.trans h.2.2.1,k.2.2.2.trans h.2.2.2⟩
theorem KeepC.b {n₀ Bs gA:Nat} {w:World} (hn:n₀≤w.heap.size) (hb:Bs+1<w.heap.size) (hA:gA<w.heap.size) (W:World) (l:Nat) (o o':Obj) (hl:w.heap.size≤l) (h:W.heap[l]?=some o) (hc:o.isCells=false) (hw:o.isWalk=false):KeepC n₀ Bs gA W (W.putObj l o'):=
 ⟨belowK_b hn W l o o' hl h hc hw,World.putObj_heap_other (by omega),World.putObj_heap_other (by omega),World.putObj_heap_other (by omega)⟩
theorem KeepC.cell {n₀ Bs gA:Nat} {W W':World} (h:KeepC n₀ Bs gA W W') (j:Nat):W'.cell? ⟨gA,j,none⟩=W.cell? ⟨gA,j,none⟩:=World.cell?_of_block (a:=⟨gA,j,none⟩) h.2.2.2
theorem sg (F:Fence) (hF:∀k,F.fn k) (nf:F.round=none) (n:Nat) (hn:1≤n) (Bs n₀ gA:Nat) (b o cap m q:Nat) (hm:0<m) (R9:m*q≤cap) (hq:m*q≤4096) {α:Type} (enc:α→Nat) (DB:∀j,j<q→∃x,enc x=m*j) (w:World)
 (Vd:n₀≤w.heap.size) (hB:Bs+1<w.heap.size) (hA:gA<w.heap.size) (hc:w.cell? ⟨Bs,0,none⟩=some (.slice (some ⟨b,o,none⟩) (m*q) cap)) (oT:w.cell? ⟨Bs+1,0,none⟩=some (.int .i64 m)):
 SeqStopsK F n Tryz.prog 116 #[.pointer (some ⟨Bs,0,none⟩),.pointer (some ⟨Bs+1,0,none⟩)] (fun x:α=>#[Value.slice (some ⟨b,o+enc x,none⟩) m m]) (KeepC n₀ Bs gA) (fun ys=>ys.map enc=jL q m)
  (fun pre=>∃k,k≤q∧pre.map enc=jL k m) q w:=fun l J Jx W hW hAJ _ hY h0=>by
 have hKW:KeepC n₀ Bs gA w W:=⟨hW.mono Vd,hW.block Bs (by omega),hW.block (Bs+1) hB,hW.block gA hA⟩
 exact GU F hF nf n hn l Bs (Bs+1) (KeepC n₀ Bs gA) (KeepC.refl _ _ _) KeepC.trans (fun h=>⟨h.2.1,h.2.2.1⟩) (fun W=>⟨(adl _ _).drew,rfl,rfl,rfl⟩) b o cap m q hm R9 hq enc DB J Jx hY
  (fun pre W h=>hAJ pre W W.drew none h ⟨rfl,rfl,rfl,adi _,fun _ _ _=>rfl⟩ (fun _ h=>by cases h)) W
  ((World.cell?_of_block (a:=⟨Bs,0,none⟩) hKW.2.1).trans hc) ((World.cell?_of_block (a:=⟨Bs+1,0,none⟩) hKW.2.2.1).trans oT) h0
end Go.Proofs.YtnlkdheaohocnaaGreatDoor
