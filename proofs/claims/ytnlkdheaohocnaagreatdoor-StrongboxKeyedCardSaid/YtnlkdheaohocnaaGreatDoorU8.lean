/- Whoever walks down with the secret signs what whoever walks down without it verifies, and the text of either walks the same way (StrongboxKeyed). No condition. -/
import Derived.Test.YtnlkdheaohocnaaGreatDoorU1
import Derived.RangeFuncBox
import Derived.RangeFuncNested
import Derived.RangeFuncCalls
import Derived.RangeFuncLeaves
import Derived.Shelf.Abstract
import Derived.OwnWalkIn
import Derived.TacticsInMore
import Derived.LoopNIn
import Derived.LoopIn
import Derived.Lib.Hide
import Derived.Test.YtnlkdheaohocnaaGreatDoorRows
import Derived.Test.YtnlkdheaohocnaaGreatDoorU4
set_option maxRecDepth 1000000
set_option maxHeartbeats 16000000
set_option linter.unusedVariables false
set_option linter.unusedSimpArgs false
namespace Go.Proofs.YtnlkdheaohocnaaGreatDoor
open Go.RowKit Go.Shelf
attribute [local go_sem] Oper.semAt_some
def C0 (bs:List UInt8) (k:Nat):List (Nat×UInt8):=(List.range k).map fun j=>(bs.length-1-j,bs[bs.length-1-j]?.getD 0)
theorem AE (bs:List UInt8) (k:Nat):C0 bs (k+1)=C0 bs k++[(bs.length-1-k,bs[bs.length-1-k]?.getD 0)]:=by simp[C0,List.range_succ]
theorem DA (bs:List UInt8) (k:Nat):(C0 bs k).length=k:=by simp[C0]
theorem rb (bs:List UInt8):(C0 bs bs.length).map (·.2)=bs.reverse:=by
 apply List.ext_getElem
 · simp[C0]
 intro i h1 h2;have:bs.length-1-i<bs.length:=by simp[C0] at h1;omega
 simp[C0,this]
def Keep (n₀ Bs:Nat) (W W':World):Prop:=Below n₀ W W'∧W'.heap[Bs]?=W.heap[Bs]?
theorem pS {n₀ Bs:Nat} {A B C:World} (h:Keep n₀ Bs A B) (k:Keep n₀ Bs B C):Keep n₀ Bs A C:=⟨h.1.trans k.1,k.2.trans h.2⟩
theorem Fx {n₀ Bs:Nat} {w:World} (hn:n₀≤w.heap.size) (hb:Bs<w.heap.size) (W:World) (l:Nat) (o o':Obj) (hl:w.heap.size≤l) (h:W.heap[l]?=some o) (hc:o.isCells=false) (hw:o.isWalk=false):Keep n₀ Bs W (W.putObj l o'):=
 ⟨belowK_b hn W l o o' hl h hc hw,World.putObj_heap_other (by omega)⟩
theorem Keep.refl (n₀ Bs:Nat) (W:World):Keep n₀ Bs W W:=⟨adl _ _,rfl⟩
theorem Keep.cell {n₀ Bs:Nat} {W W':World} (h:Keep n₀ Bs W W') {v:Value} (hc:W.cell? ⟨Bs,0,none⟩=some v):W'.cell? ⟨Bs,0,none⟩=some v:=(World.cell?_of_block (a:=⟨Bs,0,none⟩) h.2).trans hc
def Keep3 (n₀ Bs gA:Nat) (W W':World):Prop:=Keep n₀ Bs W W'∧W'.heap[gA]?=W.heap[gA]?
theorem Keep3.refl (n₀ Bs gA:Nat) (W:World):Keep3 n₀ Bs gA W W:=⟨Keep.refl _ _ _,rfl⟩
theorem Keep3.trans {n₀ Bs gA:Nat} {a b c:World} (h:Keep3 n₀ Bs gA a b) (k:Keep3 n₀ Bs gA b c):Keep3 n₀ Bs gA a c:=⟨pS h.1 k.1,k.2.trans h.2⟩
theorem Keep3.b {n₀ Bs gA:Nat} {w:World} (hn:n₀≤w.heap.size) (hb:Bs<w.heap.size) (hA:gA<w.heap.size) (W:World) (l:Nat) (o o':Obj) (hl:w.heap.size≤l) (h:W.heap[l]?=some o) (hc:o.isCells=false) (hw:o.isWalk=false):Keep3 n₀ Bs gA W (W.putObj l o'):=
 ⟨Fx hn hb W l o o' hl h hc hw,World.putObj_heap_other (by omega)⟩
theorem Sl.keep3 {n₀ Bs gA N:Nat} {A:Option Addr} {W W':World} {xs:List Value} (h:Sl W N A xs) (hA:0<xs.length→∀a,A=some a→a.block=gA) (k:Keep3 n₀ Bs gA W W'):Sl W' N A xs:=fun hn=>by
 obtain⟨b,o,e,hb,hc⟩:=h hn;have hk:=k.2;rw[←hA hn _ e] at hk;exact⟨b,o,e,hb,fun j hj=>(World.cell?_of_block (a:=⟨b,o+j,none⟩) hk).trans (hc j hj)⟩
theorem Ow.rowAt {w:World} {base E n c:Nat} {A:Option Addr} {xs:List Value} (h:Ow w base E (.slice A n c) xs) (aV:base<w.heap.size+1):∃gA,base≤gA∧gA≤w.heap.size∧(0<xs.length→∀a,A=some a→a.block=gA):=by
 obtain⟨A',c',e,h1,h2,h3⟩:=h;injection e with e1 e2 e3;subst e1 e2 e3
 by_cases hc:0<c
 · obtain⟨g,cur,rfl,hb,hh,_⟩:=h3 hc
   exact⟨g,hb,by have:=(adg.1 hh).1;omega,fun _ a ha=>by cases ha;rfl⟩
 exact⟨w.heap.size,by omega,by omega,fun hn=>by omega⟩
theorem KJ (F:Fence) (hF:∀k,F.fn k) (nf:F.round=none) (n:Nat) (hn:1≤n) (l Bs N:Nat) (K:World→World→Prop) (WK:∀W,K W W) (R4:∀{A B C:World},K A B→K B C→K A C) (JV:∀{W W':World},K W W'→W'.heap[Bs]?=W.heap[Bs]?) (A:Option Addr) (cap:Nat) (bs:List UInt8) (yg:bs.length≤140737488351232) {α:Type} (enc:α→Nat×UInt8) (DB:∀j (h:j<bs.length),∃x,enc x=(j,bs[j])) (J Jx:List α→World→Prop)
 (hY:∀pre x W,J pre W→pre.length<bs.length→YieldAt F (n-1) Tryz.prog l #[Value.int .i64 ((enc x).1:Int),.int .u8 ((enc x).2.toNat:Int)] W fun e W'=>
  (e=.returned (.bool true)∧J (pre++[x]) W'∧K W W')∨(e=.returned (.bool false)∧Jx (pre++[x]) W'))
 (W:World) (rf:W.cell? ⟨Bs,0,none⟩=some (.slice A bs.length cap)) (hs:∀W',K W W'→Sl W' N A (B8 bs)) (h0:J [] W):
 CallsIn F n Tryz.prog 126 #[.func (.yield l) #[] #[],.pointer (some ⟨Bs,0,none⟩)] W fun e W'=>(∃v,e=.returned v)∧
  ((∃ys,ys.map enc=C0 bs bs.length∧J ys W')∨(∃pre,(∃k,k≤bs.length∧pre.map enc=C0 bs k)∧Jx pre W')):=by
 refine callsIn_of_wp Tryz.func126 rfl (hF _) ?_ nf;simp only[Tryz.ntmps126,List.size_toArray,adz,List.length_nil,Nat.reduceAdd,Nat.reduceSub,Array.replicate_succ,Array.replicate_zero,List.push_toArray,List.append_toArray,adj,adh]
 gi_wp2
 gi_loopw [3] (fun i wr=>∃k:Nat,k≤bs.length∧i=.int .i64 ((bs.length:Int)-1-(k:Int))∧(∃pre,pre.map enc=C0 bs k∧J pre wr)∧K W wr)
  (fun i _=>(intOf i+1).toNat)
 case atStart=>exact⟨0,adF _,by go_num,⟨[],rfl,h0⟩,WK _⟩
 case round=>
  obtain⟨k,hk,rfl,⟨pre,sM,WL⟩,zG⟩:=hrel;have DC:=ab sM;have pe:pre.length=k:=by have:=congrArg List.length sM;simpa [DA] using this
  clear sM
  by_cases aV:k<bs.length
  · obtain⟨m,hm⟩:∃m,m=bs.length-1-k:=⟨_,rfl⟩
    have Fy:m<bs.length:=by omega
    have WM:(bs.length:Int)-1-(k:Int)=(m:Int):=by omega
    obtain⟨b,o,rfl,hb,hc⟩:=(hs wr zG).at_ (k:=m) Fy;have Kb:=hc m Fy;have Vn:=(World.cell?_of_block (a:=⟨Bs,0,none⟩) (JV zG)).trans rf;obtain⟨x,hx⟩:=DB m Fy;obtain⟨fn,tmps,assign,body,hy,hR⟩:=hY _ x wr WL (by rw[pe];exact aV);simp only[hx] at hy hR;have Hx:=ab hx;clear hx pe;rw[WM];have R6:=zG;have Hm:=ab hm;clear WM hc hs rf zG hm
    gi_wp2
    refine hR.mono ?_;rintro e W3 (⟨rfl,hJ3,JW⟩|⟨rfl,R7⟩)
    · gi_wp2
      go_roundw
      case rel=>
       have hm:=Hm.out;exact⟨k+1,by omega,by go_num,⟨_,by rw[List.map_append,DC.out,AE,←hm,adp Fy,List.map_cons,List.map_nil,Hx.out];rfl,hJ3⟩,R4 R6 JW⟩
      case measure=>simp[intOf]
    gi_wp2
    refine adm (results_none rfl _ _ _) rfl ?_;have hm:=Hm.out;exact⟨⟨_,rfl⟩,.inr ⟨_,⟨k+1,by omega,by rw[List.map_append,DC.out,AE,←hm,adp Fy,List.map_cons,List.map_nil,Hx.out];rfl⟩,R7⟩⟩
  obtain rfl:k=bs.length:=by omega
  have e1:(bs.length:Int)-1-(bs.length:Int)=-1:=by omega
  rw[e1]
  gi_wp2
  go_end0;exact⟨⟨_,rfl⟩,.inl ⟨_,DC.out,WL⟩⟩
theorem yh (F:Fence) (hF:∀k,F.fn k) (nf:F.round=none) (n:Nat) (a:Option Addr) (len cap:Nat) (w:World):
 CallsIn F n Tryz.prog 109 #[.slice a len cap] w fun e w'=>e=.returned (.func (.func 126) #[] #[.pointer (some ⟨w.heap.size,0,none⟩)])∧w'=w.alloc (.cells #[.slice a len cap] 22):=by
 refine callsIn_of_wp Tryz.func109 rfl (hF _) ?_ nf;simp only[Tryz.ntmps109,List.size_toArray,adz,List.length_nil,Nat.reduceAdd,Nat.reduceSub,Array.replicate_succ,Array.replicate_zero,List.push_toArray,List.append_toArray,adj,adh]
 gi_wp2
 go_ret;exact⟨rfl,rfl⟩
theorem nr (F:Fence) (hF:∀k,F.fn k) (nf:F.round=none) (n:Nat) (hn:1≤n) (Bs N:Nat) (K:World→World→Prop) (WK:∀W,K W W) (R4:∀{A B C:World},K A B→K B C→K A C) (JV:∀{W W':World},K W W'→W'.heap[Bs]?=W.heap[Bs]?)
 (A:Option Addr) (cap:Nat) (bs:List UInt8) (yg:bs.length≤140737488351232) {α:Type} (enc:α→Nat×UInt8) (DB:∀j (h:j<bs.length),∃x,enc x=(j,bs[j])) (w:World)
 (hwK:∀W,Below w.heap.size w W→K w W) (hc:w.cell? ⟨Bs,0,none⟩=some (.slice A bs.length cap)) (hs:∀W',K w W'→Sl W' N A (B8 bs)):
 SeqStopsK F n Tryz.prog 126 #[.pointer (some ⟨Bs,0,none⟩)] (fun x:α=>#[Value.int .i64 ((enc x).1:Int),Value.int .u8 ((enc x).2.toNat:Int)]) K (fun ys=>ys.map enc=C0 bs bs.length)
  (fun pre=>∃k,k≤bs.length∧pre.map enc=C0 bs k) bs.length w:=fun l J Jx W hW _ _ hY h0=>
 KJ F hF nf n hn l Bs N K WK R4 JV A cap bs yg enc DB J Jx hY W ((World.cell?_of_block (a:=⟨Bs,0,none⟩) (JV (hwK W hW))).trans hc) (fun W' h=>hs W' (R4 (hwK W hW) h)) h0
theorem DD (F:Fence) (hF:∀k,F.fn k) (nf:F.round=none) (n:Nat) (hn:1≤n) (Bs n₀:Nat) (A:Option Addr) (cap:Nat) (bs:List UInt8) (yg:bs.length≤140737488351232) (w:World) (rf:Bs<w.heap.size) (hn₀:n₀≤w.heap.size)
 (hc:w.cell? ⟨Bs,0,none⟩=some (.slice A bs.length cap)) (hs:Sl w n₀ A (B8 bs)):
 SeqStopsK F n Tryz.prog 126 #[.pointer (some ⟨Bs,0,none⟩)] (fun x:Nat×UInt8=>#[Value.int .i64 (x.1:Int),Value.int .u8 (x.2.toNat:Int)]) (Keep n₀ Bs) (fun ys=>ys=C0 bs bs.length)
  (fun pre=>∃k,k≤bs.length∧pre=C0 bs k) bs.length w:=
 fun l J Jx W hW n Ks hY h0=>by
  have h:=nr F hF nf _ hn Bs n₀ (Keep n₀ Bs) (Keep.refl _ _) pS (fun h=>h.2) A cap bs yg id (fun j h=>⟨_,rfl⟩) w (fun W hW=>⟨hW.mono hn₀,hW.block Bs rf⟩) hc (fun _ h=>hs.below h.1);simpa only[List.map_id] using h l J Jx W hW n Ks hY h0
end Go.Proofs.YtnlkdheaohocnaaGreatDoor
