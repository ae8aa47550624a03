/- Whoever walks down with the secret signs what whoever walks down without it verifies, and the text of either walks the same way (StrongboxKeyed). No condition. -/
import Derived.Test.YtnlkdheaohocnaaGreatDoorU1
import Derived.Test.YtnlkdheaohocnaaGreatDoorU5
import Derived.Test.YtnlkdheaohocnaaGreatDoorU14
import Derived.Deep.WholeRow
import Derived.Deep.DeepCutAuto
import Derived.Test.YtnlkdheaohocnaaGreatDoorU9
import Derived.Test.YtnlkdheaohocnaaGreatDoorU10
import Derived.Test.YtnlkdheaohocnaaGreatDoorU15
set_option maxRecDepth 1000000
set_option maxHeartbeats 16000000
set_option linter.unusedVariables false
set_option linter.unusedSimpArgs false
namespace Go.Proofs.YtnlkdheaohocnaaGreatDoor
open Go Go.RowKit Go.Shelf
theorem Dz (x:BitVec 64) (n:Nat) (h0:0<n) (h1:n<64) (w:World):
 Calls Tryz.prog 128 #[.int .u64 (x.toNat:Int),.int .i64 (-(n:Int))] w fun e w'=>e=.returned (.int .u64 ((x.rotateRight n).toNat:Int))∧w=w':=by
 obtain⟨m,hm⟩:∃m,m=64-n:=⟨_,rfl⟩;have hb:bits .and .u64 (IntKind.u64.wrap (-(n:Int))) 63=(m:Int):=by rw[hm];exact vG n h0 h1
 have h2:0<m:=by omega
 have h3:m<64:=by omega
 rw[←zZ x n h0 h1,←hm];clear hm h0 h1;go_enter Tryz.func128,Tryz.ntmps128;go_wp2;go_ret;exact⟨by rw[←xY x m h2 h3];rfl,rfl⟩
theorem As (x:BitVec 64) (n:Nat) (h0:0<n) (h1:n<64) (w:World):
 Calls Tryz.prog 117 #[eP x,.int .i64 n] w fun e w'=>e=.returned (eP (x.rotateRight n))∧Below w.heap.size w w':=by
 go_enter Tryz.func117,Tryz.ntmps117;go_wp2_with (go_at_call 128;refine(Dz x n h0 h1 _).mono ?_;rintro e w' ⟨rfl,rfl⟩);go_ret;exact⟨rfl,adl _ _⟩
theorem xf (x:BitVec 64) (n:Int) (h:0<n∧n<64) (w:World):
 Calls Tryz.prog 117 #[eP x,.int .i64 n] w fun e w'=>e=.returned (eP (x.rotateRight n.toNat))∧Below w.heap.size w w':=by
 obtain⟨m,rfl⟩:=Int.eq_ofNat_of_zero_le (show 0≤n by omega);exact As x m (by omega) (by omega) w
theorem aax:El Tryz.prog 170 65 (.int .u64 0) 8:=⟨by kernel_rfl,by kernel_rfl,rfl⟩
theorem KH (x:BitVec 64) (y:UInt8):bits .or .u64 (IntKind.u64.wrap ((x.toNat:Int)*256)) (y.toNat:Int)=((x<<<8 ||| y.toBitVec.setWidth 64).toNat:Int):=by
 have e:IntKind.u64.wrap ((x.toNat:Int)*256)=((x<<<8).toNat:Int):=by
  rw[←Kj];rfl
 rw[e,N8,Qk]
theorem WD {a b c d e f g h:BitVec 64}:(Tryz.prog.info? 133).map (·.size)=some (dY [a,b,c,d,e,f,g,h]).toArray.size:=by kernel_rfl
theorem q9 {o:Oper} (ho:o.op=.alloc 133) (ρ:Operand→Value) (W:World):(execOp ρ o).run Tryz.prog W=.ok (.value (.pointer (some ⟨W.heap.size,0,none⟩))) (W.alloc (.cells (dY [0,0,0,0,0,0,0,0]).toArray 133)):=by
 unfold execOp;rw[ho];go_simp;rfl
theorem v8 {w0 w:World} {g t:Nat} {a b c d e f p q:BitVec 64} {L:List (Nat×TypeId×Array Value)} (h:Mem w0 w ((g,t,(dY [a,b,c,d,e,f,p,q]).toArray)::L)):w.cell? ⟨g,0,none⟩=some (eP a)∧w.cell? ⟨g,1,none⟩=some (eP b)∧w.cell? ⟨g,2,none⟩=some (eP c)∧w.cell? ⟨g,3,none⟩=some (eP d)∧w.cell? ⟨g,4,none⟩=some (eP e)∧w.cell? ⟨g,5,none⟩=some (eP f)∧w.cell? ⟨g,6,none⟩=some (eP p)∧w.cell? ⟨g,7,none⟩=some (eP q):=
 ⟨dL (h.at_ 0 rfl) rfl,dL (h.at_ 0 rfl) rfl,dL (h.at_ 0 rfl) rfl,dL (h.at_ 0 rfl) rfl,dL (h.at_ 0 rfl) rfl,dL (h.at_ 0 rfl) rfl,dL (h.at_ 0 rfl) rfl,dL (h.at_ 0 rfl) rfl⟩
theorem RY (g:Nat) (W:World):(Instr.sliceAt 133 (.pointer (some ⟨g,0,none⟩)) (some (.int .i64 1)) none none).run Tryz.prog W=.ok (.slice (some ⟨g,1,none⟩) 7 7) W:=by go_simp
theorem RZ (g:Nat) (W:World):(Instr.sliceAt 133 (.pointer (some ⟨g,0,none⟩)) none (some (.int .i64 7)) none).run Tryz.prog W=.ok (.slice (some ⟨g,0,none⟩) 7 8) W:=by go_simp
theorem sl8 {w0 w:World} {g t:Nat} {a b c d e f p q:BitVec 64} {L:List (Nat×TypeId×Array Value)} (h:Mem w0 w ((g,t,(dY [a,b,c,d,e,f,p,q]).toArray)::L)):Sl w (g+1) (some ⟨g,0,none⟩) (dY [a,b,c,d,e,f,p]):=fun _=>⟨g,0,rfl,Nat.lt_succ_self g,fun j hj=>by
 rw[Nat.zero_add];refine dL (h.at_ 0 rfl) ?_;have hj:j<7:=by simpa [dY] using hj
 rw[adp (by simp[dY];omega)];rcases (show j=0∨j=1∨j=2∨j=3∨j=4∨j=5∨j=6 by omega) with rfl|rfl|rfl|rfl|rfl|rfl|rfl<;>rfl⟩
theorem xg (b:List UInt8) (t:Nat) (h:t<80):(jr b t).set t (eP (iZ b t 0))=jr b t:=by
 apply List.ext_getElem?;intro x;rw[List.getElem?_set];split
 · rename_i e
   subst e;rw[if_pos (by rw[js b t (by omega)];exact h),Ol b t h];rfl
 rfl
theorem GP (gs gk E1 E2:Nat) (st:List (BitVec 64)) (fT:st.length=8) (ks:List (BitVec 64)) (R0:ks.length=80) (A:Option Addr) (b:List UInt8) (hb:b.length=128) (w:World)
 (kr:w.heap[gs]?=some (.cells (dY st).toArray E1 (0,0))) (th:w.heap[gk]?=some (.cells (dY ks).toArray E2 (0,0))) (bN:gs≠gk) (hs:Sl w w.heap.size A (B8 b)):
 Calls Tryz.prog 99 #[.pointer (some ⟨gs,0,none⟩),.pointer (some ⟨gk,0,none⟩),.slice A 128 128] w fun e W'=>e=.returned (.tuple #[])∧W'.heap[gs]?=some (.cells (dY (jJ ks b st)).toArray E1 (0,0))∧w.grownBy W' (some gs):=by
 obtain⟨s0,s1,s2,s3,s4,s5,s6,s7,rfl⟩:∃s0 s1 s2 s3 s4 s5 s6 s7,st=[s0,s1,s2,s3,s4,s5,s6,s7]:=by
  match st,fT with
  |[s0,s1,s2,s3,s4,s5,s6,s7],_=>exact⟨s0,s1,s2,s3,s4,s5,s6,s7,rfl⟩
 have nh:=hs;obtain⟨bb,bo,rfl,iG,jT⟩:=hs.at_ (k:=0) (by omega);clear hs;have R1:=ab kr;have WE:=ab th;have bx:Tryz.prog.follows .mixedOrders=true:=by kernel_rfl
 clear kr th nh;go_enter Tryz.func99,Tryz.ntmps99;go_wp2_with fail;obtain⟨gW,Fu⟩:∃g,g=w.heap.size:=⟨_,rfl⟩;obtain⟨w1,fu⟩:∃w1,w1=w.alloc (.cells (Array.replicate 80 (.int .u64 0)) 145):=⟨_,rfl⟩;rw[←Fu];refine(show w1=_ from fu)▸?_;have HM:Hid (Mem w w1 [(gW,145,(jr b 0).toArray)]):=ab (by rw[fu,Fu];exact(Mem.start w).new _ _);clear fu Fu;go_loopw [20] (fun i wr=>∃k:Nat,k≤80∧i=.int .i64 k∧Hid (Mem w wr [(gW,145,(jr b k).toArray)])) (fun i _=>80-(intOf i).toNat)
 case atStart=>exact⟨0,adF _,rfl,HM⟩
 case round=>
  clear HM;obtain⟨k,hk,rfl,HM⟩:=hrel
  by_cases aV:k<80
  · by_cases GQ:k<16
    · have NK:=ab jT
      clear jT;go_wp2_with fail;go_loopw [33] (fun i wr=>∃q:Nat,q≤8∧i=.int .i64 q∧Hid (Mem w wr [(gW,145,((jr b k).set k (eP (iZ b k q))).toArray)])) (fun i _=>8-(intOf i).toNat)
      case atStart=>exact⟨0,adF _,rfl,by rw[xg b k aV];exact HM⟩
      case round=>
       clear HM;obtain⟨q,hq,rfl,HM⟩:=hrel
       by_cases R2:q<8
       · obtain⟨x,hx⟩:=ae (iZ b k q)
         obtain⟨y,hy⟩:∃y,y=b[8*k+q]:=⟨_,rfl⟩;obtain⟨m,hm⟩:∃m,m=bo+(8*k+q):=⟨_,rfl⟩;have cx:wr.cell? ⟨gW,k,none⟩=some (.int .u64 (x.toNat:Int)):=dL (HM.out.at_ 0 rfl) (by rw[List.getElem?_set_self (by rw[js b k hk];exact aV),hx]);have fx:=frozen_of_row wr gW k _ _ (HM.out.at_ 0 rfl)
         have cy:wr.cell? ⟨bb,bo+8*k+q,none⟩=some (.int .u8 (y.toNat:Int)):=by
          rw[show bo+8*k+q=bo+(8*k+q) by omega];exact((HM.out.hb.cell (p:=⟨bb,bo+(8*k+q),none⟩) iG).trans (NK.out _ (by omega))).trans (by rw[hy])
         have hy8:=y.toNat_lt;have Hx:=ab hx;have Hy:=ab hy;clear hx hy hm;go_wp2_with fail;have iT:=HM.out.setD 0 rfl k (.int .u64 ((x<<<8 ||| y.toBitVec.setWidth 64).toNat:Int));refine⟨⟨q+1,by omega,rfl,?_⟩,by simp[intOf];omega⟩
         have zD:x<<<8 ||| y.toBitVec.setWidth 64=iZ b k (q+1):=by
          rw[iZ,←Hx.out,Hy.out,List.getD_eq_getElem?_getD,adp (by omega)];rfl
         rw[List.set_set,zD] at iT;rw[KH x y,zD];exact ab iT
       obtain rfl:q=8:=by omega
       rw[show iZ b k 8=lK b k from(Kd b k GQ).symm,pO b k aV] at HM;go_wp2_with fail;exact⟨⟨k+1,by omega,rfl,HM⟩,by simp[intOf];omega⟩
    obtain⟨tV,Au⟩:∃m,m=k-16:=⟨_,rfl⟩;obtain⟨tW,Ax⟩:∃m,m=k-15:=⟨_,rfl⟩;obtain⟨a7,Qr⟩:∃m,m=k-7:=⟨_,rfl⟩;obtain⟨a2,xh⟩:∃m,m=k-2:=⟨_,rfl⟩;have Vl:(k:Int)-16=(tV:Int):=by omega
    have Vm:(k:Int)-15=(tW:Int):=by omega
    have e7:(k:Int)-7=(a7:Int):=by omega
    have e2:(k:Int)-2=(a2:Int):=by omega
    have l16:tV<80:=by omega
    have l15:tW<80:=by omega
    have l7:a7<80:=by omega
    have l2:a2<80:=by omega
    have NL:=(fp b k tV hk (by omega)).trans (eV b tV l16);have NM:=(fp b k tW hk (by omega)).trans (eV b tW l15);have c7:=(fp b k a7 hk (by omega)).trans (eV b a7 l7);have c2:=(fp b k a2 hk (by omega)).trans (eV b a2 l2);have Hx:Hid (lK b k=lK b tV+lK b a7+Ve (lK b tW)+Vf (lK b a2)):=by subst Au Ax Qr xh;exact Ke b k GQ
    clear Au Ax Qr xh;obtain⟨R3,AA⟩:∃x,x=lK b tV:=⟨_,rfl⟩;obtain⟨Fv,AB⟩:∃x,x=lK b tW:=⟨_,rfl⟩;obtain⟨x7,Qs⟩:∃x,x=lK b a7:=⟨_,rfl⟩;obtain⟨x2,yf⟩:∃x,x=lK b a2:=⟨_,rfl⟩;rw[←AA] at NL Hx;rw[←AB] at NM Hx;rw[←Qs] at c7 Hx;rw[←yf] at c2 Hx;have C16:=ab NL;have C15:=ab NM;have C7:=ab c7;have C2:=ab c2;have E16:=ab Vl;have E15:=ab Vm;have E7:=ab e7;have E2:=ab e2;have acn:(k:Int)<80:=by omega
    have CY:=js b k hk;have sK:=pO b k aV;obtain⟨R5,WG⟩:∃R,R=jr b k:=⟨_,rfl⟩;rw[←WG] at CY sK C16 C15 C7 C2 HM;have Hrl:=ab CY;have KI:=ab sK;clear AA AB Qs yf NL NM c7 c2 Vl Vm e7 e2 jT CY sK WG
    have HC:Hid (wr.drew.cell? ⟨gW,tW,none⟩=some (eP Fv)∧wr.drew.cell? ⟨gW,a2,none⟩=some (eP x2)∧wr.drew.cell? ⟨gW,tV,none⟩=some (eP R3)∧wr.drew.cell? ⟨gW,a7,none⟩=some (eP x7)):=
     ab ⟨dL (HM.out.drew.at_ 0 rfl) C15.out,dL (HM.out.drew.at_ 0 rfl) C2.out,dL (HM.out.drew.at_ 0 rfl) C16.out,dL (HM.out.drew.at_ 0 rfl) C7.out⟩
    go_upto_region 11 with (first|(show Code.wp _ (Code.region 10 _ _) _ _ _;refine aQ [(0,0),(1,0),(2,0),(3,1),(4,0),(5,0),(6,0),(7,1),(8,0),(9,0)] [] [] bx (by kernel_rfl) (by intro c a d v w h;cases d<;>exact h) trivial (aH ?_);replace HM:=ab HM.out.drew)|(show ai _ _ _ _ _ _ ((_,0)::_) _;refine aj rfl rfl rfl (by kernel_rfl) _ (.inl rfl) (v:=.int _ _) rfl ?_)|(show ai _ _ _ _ _ _ ((_,0)::_) _;refine aj rfl rfl rfl (by kernel_rfl) _ (.inr rfl) (v:=.int _ _) rfl ?_)|(show ai _ _ _ _ _ _ [] _;refine bj ?_)|(show cu _ _ _ _ _ _ [] _ _;refine bm HM.out ?_;intro W af;simp only[adj,adh,List.set_cons_zero,List.set_cons_succ] at af;replace HM:=ab af;clear af)|(show ai _ _ _ _ _ _ [] _;refine ay (fun K hK=>?_);simp only[aG];go_simp;refine hK _ ?_;clear hK K)|(show ai _ _ _ _ _ _ ((_,0)::_) _;refine tU rfl rfl rfl (by kernel_rfl) _ _ rfl rfl rfl (by with_reducible first|exact E15.out|exact E2.out|exact E16.out|exact E7.out) (by omega) ?_)|(show ai _ _ _ _ _ _ ((_,0)::_) _;refine bR 145 rfl rfl rfl (by kernel_rfl) _ _ rfl rfl rfl Tryz.underlying145 (by kernel_rfl) (by omega) ?_)|(show ai _ _ _ _ _ _ ((_,1)::_) _;refine fK 65 rfl rfl rfl (by kernel_rfl) _ rfl rfl Tryz.underlying65 (by with_reducible first|exact HC.out.1|exact HC.out.2.1|exact HC.out.2.2.1|exact HC.out.2.2.2) ?_))
    have HC:Hid (W.drew.cell? ⟨gW,tW,none⟩=some (eP Fv)∧W.drew.cell? ⟨gW,a2,none⟩=some (eP x2)∧W.drew.cell? ⟨gW,tV,none⟩=some (eP R3)∧W.drew.cell? ⟨gW,a7,none⟩=some (eP x7)):=
     ab ⟨dL (HM.out.drew.at_ 0 rfl) C15.out,dL (HM.out.drew.at_ 0 rfl) C2.out,dL (HM.out.drew.at_ 0 rfl) C16.out,dL (HM.out.drew.at_ 0 rfl) C7.out⟩
    go_wp2_with (first|(show Code.wp _ (Code.region 11 _ _) _ _ _;refine aQ [(0,0),(1,0),(2,0),(3,0),(4,1),(5,0),(6,0),(7,0),(8,1),(9,0),(10,0),(11,2),(12,0),(13,2),(14,0),(15,0),(16,0),(17,0),(18,0),(19,0),(20,2),(21,0),(22,2),(23,0),(24,0),(25,0),(26,0),(27,0),(28,0)] [] [(29,3)] bx (by kernel_rfl) (by intro c a d v w h;cases d<;>exact h) trivial (aH ?_);replace HM:=ab HM.out.drew)|(show ai _ _ _ _ _ _ ((_,0)::_) _;refine aj rfl rfl rfl (by kernel_rfl) _ (.inl rfl) (v:=.int _ _) rfl ?_)|(show ai _ _ _ _ _ _ ((_,0)::_) _;refine j2 rfl rfl rfl (by kernel_rfl) _ _ rfl rfl rfl ?_)|(show ai _ _ _ _ _ _ ((_,0)::_) _;refine nZ rfl rfl rfl (by kernel_rfl) _ _ rfl rfl rfl ?_)|(show ai _ _ _ _ _ _ ((_,0)::_) _;refine n0 rfl rfl rfl (by kernel_rfl) _ 7 rfl (by decide) rfl ?_)|(show ai _ _ _ _ _ _ ((_,0)::_) _;refine n0 rfl rfl rfl (by kernel_rfl) _ 6 rfl (by decide) rfl ?_)|(show ai _ _ _ _ _ _ [] _;refine bj ?_)|(show cu _ _ _ _ _ _ [] _ _;refine bm HM.out ?_;intro W af;simp only[adj,adh,List.set_cons_zero,List.set_cons_succ] at af;replace HM:=ab af;clear af)|(show ai _ _ _ _ _ _ [] _;refine ay (fun K hK=>?_);simp only[aG];go_simp;refine hK _ ?_;clear hK K)|(show ai _ _ _ _ _ _ ((_,0)::_) _;refine tU rfl rfl rfl (by kernel_rfl) _ _ rfl rfl rfl (by with_reducible first|exact E15.out|exact E2.out|exact E16.out|exact E7.out) (by omega) ?_)|(show ai _ _ _ _ _ _ ((_,0)::_) _;refine bR 145 rfl rfl rfl (by kernel_rfl) _ _ rfl rfl rfl Tryz.underlying145 (by kernel_rfl) (by omega) ?_)|(show ai _ _ _ _ _ _ ((_,1)::_) _;refine fK 65 rfl rfl rfl (by kernel_rfl) _ rfl rfl Tryz.underlying65 (by with_reducible first|exact HC.out.1|exact HC.out.2.1|exact HC.out.2.2.1|exact HC.out.2.2.2) ?_)|((first|(show ai _ _ _ _ _ _ ((_,2)::_) _;refine aF (f:=117) rfl rfl rfl ?_) );refine⟨_,_,Tryz.func117,by kernel_rfl,by kernel_rfl,by kernel_rfl,fun W hW=>xf _ _ (by decide) _,?_⟩;try (intro W af;replace HM:=ab af;clear af))|(show ai _ _ _ _ _ _ ((_,3)::_) _;refine n5 HM.out 65 _ _ rfl rfl Tryz.underlying65 (by kernel_rfl) ?_;refine⟨0,_,_,_,_,_,rfl,rfl,rfl,rfl,rfl,(by show k<R5.toArray.size;rw[List.size_toArray,Hrl.out];exact aV),?_⟩;intro W af;replace HM:=ab af;clear af))
    have iT:Mem w W [(gW,145,(R5.set k (eP (lK b k))).toArray)]:=by
     rw[Hx.out];have h:=HM.out;rw[List.setIfInBounds_toArray] at h;exact h
    rw[KI.out] at iT;exact⟨⟨k+1,by omega,rfl,ab iT⟩,by simp[intOf];omega⟩
  obtain rfl:k=80:=by omega
  rw[show (jr b 80).toArray=(dY (o7 b)).toArray from by rw[jr,ady (by rw[eE];omega),Nat.sub_self];simp] at HM;have kr:=(HM.out.hb.block gs (adg.1 R1.out).1).trans R1.out;have eD:(dY (o7 b)).toArray.size=80:=by simp[eE]
  obtain⟨ws,AD⟩:∃ws,ws=(dY (o7 b)).toArray:=⟨_,rfl⟩;rw[←AD] at HM eD;have fe:Hid ((Tryz.prog.info? 145).map (·.size)=some ws.size):=ab (by rw[eD];kernel_rfl);have WH:=ab AD;have WI:=ab kr;clear AD eD kr jT;have HLT:Hid (gs<w.heap.size∧gk<w.heap.size):=ab ⟨(adg.1 R1.out).1,(adg.1 WE.out).1⟩;go_upto_region 15 with (first|(show wpList _ _ _ (⟨some 86,_,_,_,_,_⟩::_) _ _;refine ag 1 [(1,0),(2,1),(3,6),(4,3)] rfl (by kernel_rfl) ?_)|(show wpList _ _ _ (⟨some 88,_,_,_,_,_⟩::_) _ _;refine ag 0 [(0,1),(1,0)] rfl (by kernel_rfl) ?_)|(show ai _ _ _ _ _ _ ((_,0)::_) _;refine fq rfl rfl rfl (by kernel_rfl) _ rfl rfl ?_)|(show ai _ _ _ _ _ _ ((_,0)::_) _;refine aj rfl rfl rfl (by kernel_rfl) _ (.inl rfl) (v:=.int _ _) rfl ?_)|(show ai _ _ _ _ _ _ ((_,1)::_) _;refine az rfl rfl rfl (by kernel_rfl) 133 _ rfl rfl Tryz.underlying133 rfl WI.out WD ?_)|(show ai _ _ _ _ _ _ ((_,1)::_) _;refine az rfl rfl rfl (by kernel_rfl) 145 _ rfl rfl Tryz.underlying145 rfl (t:=145) (by first|exact HM.out.at_ 1 rfl) fe.out ?_)|(show ai _ _ _ _ _ _ ((_,6)::_) _;refine aq HM.out rfl rfl rfl (by kernel_rfl) (q9 rfl) ?_;intro W gN af;replace HM:=ab af;clear af)|(show ai _ _ _ _ _ _ ((_,3)::_) _;refine an HM.out 133 _ _ rfl rfl ?_;(first|(refine⟨0,_,_,_,_,rfl,rfl,rfl,rfl,rfl,WD,rfl,(pN _),?_⟩) );intro W af;simp only[adj,adh,List.set_cons_zero,List.set_cons_succ] at af;replace HM:=ab af;clear af)|(show ai _ _ _ _ _ _ [] _;refine ay (fun K hK=>?_);simp only[aG];go_simp;refine hK _ ?_;clear hK K));obtain⟨gV,Qt⟩:∃g,g=gN:=⟨_,rfl⟩;rw[←Qt] at HM;simp only[←Qt];clear Qt
  go_loopw [89] (fun i wr=>∃(k:Nat) (a0 a1 a2 a3 a4 a5 a6 a7:BitVec 64),k≤80∧i=.int .i64 k∧Hid (sa ks b [s0,s1,s2,s3,s4,s5,s6,s7] k=[a0,a1,a2,a3,a4,a5,a6,a7])∧
   Hid (Mem w wr [(gV,133,(dY [a0,a1,a2,a3,a4,a5,a6,a7]).toArray),(gW,145,ws)])) (fun i _=>80-(intOf i).toNat)
  case atStart=>exact⟨0,s0,s1,s2,s3,s4,s5,s6,s7,adF _,rfl,ab rfl,HM⟩
  case round=>
   clear HM;obtain⟨k,a0,a1,a2,a3,a4,a5,a6,a7,hk,rfl,hR,HM⟩:=hrel
   by_cases aV:k<80
   · obtain⟨xw,Fw⟩:∃x,x=lK b k:=⟨_,rfl⟩
     obtain⟨xk,oG⟩:∃x,x=ks.getD k 0:=⟨_,rfl⟩
     have CK:Hid (∀W,Mem w W [(gV,133,(dY [a0,a1,a2,a3,a4,a5,a6,a7]).toArray),(gW,145,ws)]→W.cell? ⟨gk,k,none⟩=some (eP xk)):=ab fun W h=>
      dL ((h.hb.block gk HLT.out.2).trans WE.out) (by rw[ni,oG];simp[R0,aV])
     have tX:=oP (P:=Tryz.prog) 145 65 80 ws .i64 k (.int .u64 ((lK b k).toNat:Int)) (by kernel_rfl) (by kernel_rfl) (by kernel_rfl) aV (by rw[WH.out];simpa using eV b k aV);rw[←Fw] at tX;have WJ:=ab Fw;have NN:=ab oG;clear Fw oG;go_upto_region 17 with fail;clear tX;obtain⟨T,hT⟩:∃T,T=a7+Sg1 a4+ch5 a4 a5 a6+xk+xw:=⟨_,rfl⟩;obtain⟨U,hU⟩:∃U,U=Sg0 a0+RB a0 a1 a2:=⟨_,rfl⟩;have HT:=ab hT;have HU:=ab hU;clear hT hU;go_upto_region 20 with (first|(show ai _ _ _ _ _ _ ((_,0)::_) _;refine aj (d:=17) rfl rfl rfl (by kernel_rfl) _ (.inr rfl) (v:=eP T) (by show eP _=eP T;rw[HT.out];rfl) ?_)|(show ai _ _ _ _ _ _ ((_,0)::_) _;refine aj (d:=18) rfl rfl rfl (by kernel_rfl) _ (.inr rfl) (v:=eP U) (by show eP _=eP U;rw[HU.out];rfl) ?_)|(show Code.wp _ (Code.region 17 _ _) _ _ _;refine aQ [(0,0),(1,1),(2,0),(3,1),(4,0),(5,0)] [] [] bx (by kernel_rfl) (by intro c a d v w h;cases d<;>exact h) trivial (aH ?_);replace HM:=ab HM.out.drew)|(show Code.wp _ (Code.region 18 _ _) _ _ _;refine aQ [(0,0),(1,1),(2,0),(3,2),(4,0),(5,2),(6,0),(7,0),(8,2),(9,0),(10,0),(11,0),(12,0),(13,1),(14,0),(15,0),(16,0),(17,0),(18,1),(19,0),(20,0),(21,0),(22,0),(23,0),(24,0),(25,0),(26,1),(27,0),(28,0),(29,0),(30,0)] [] [] bx (by kernel_rfl) (by intro c a d v w h;cases d<;>exact h) trivial (aH ?_);replace HM:=ab HM.out.drew)|(show Code.wp _ (Code.region 19 _ _) _ _ _;refine aQ [(0,0),(1,2),(2,0),(3,2),(4,0),(5,0),(6,2),(7,0),(8,0),(9,0),(10,1),(11,0),(12,0),(13,0),(14,1),(15,0),(16,0),(17,0),(18,1),(19,0),(20,1),(21,0),(22,0),(23,0),(24,0)] [] [] bx (by kernel_rfl) (by intro c a d v w h;cases d<;>exact h) trivial (aH ?_);replace HM:=ab HM.out.drew)|(show ai _ _ _ _ _ _ ((_,0)::_) _;refine aj rfl rfl rfl (by kernel_rfl) _ (.inl rfl) (v:=.int _ _) rfl ?_)|(show ai _ _ _ _ _ _ ((_,0)::_) _;refine aj rfl rfl rfl (by kernel_rfl) _ (.inr rfl) (v:=.int _ _) rfl ?_)|(show ai _ _ _ _ _ _ ((_,0)::_) _;refine aj rfl rfl rfl (by kernel_rfl) _ (.inl rfl) (v:=.pointer _) rfl ?_)|(show ai _ _ _ _ _ _ ((_,0)::_) _;refine fq rfl rfl rfl (by kernel_rfl) _ rfl rfl ?_)|(show ai _ _ _ _ _ _ ((_,0)::_) _;refine j2 rfl rfl rfl (by kernel_rfl) _ _ rfl rfl rfl ?_)|(show ai _ _ _ _ _ _ ((_,0)::_) _;refine nZ rfl rfl rfl (by kernel_rfl) _ _ rfl rfl rfl ?_)|(show ai _ _ _ _ _ _ ((_,0)::_) _;refine xd rfl rfl rfl (by kernel_rfl) _ _ rfl rfl rfl ?_)|(show ai _ _ _ _ _ _ ((_,0)::_) _;refine xe rfl rfl rfl (by kernel_rfl) _ rfl rfl ?_)|(show ai _ _ _ _ _ _ [] _;refine bj ?_)|(show cu _ _ _ _ _ _ [] _ _;refine bm HM.out ?_;intro W af;simp only[adj,adh,List.set_cons_zero,List.set_cons_succ] at af;replace HM:=ab af;clear af)|(show ai _ _ _ _ _ _ [] _;refine ay (fun K hK=>?_);simp only[aG];go_simp;refine hK _ ?_;clear hK K)|((first|(show ai _ _ _ _ _ _ ((_,2)::_) _;refine aF (f:=117) rfl rfl rfl ?_) );refine⟨_,_,Tryz.func117,by kernel_rfl,by kernel_rfl,by kernel_rfl,fun W hW=>xf _ _ (by decide) _,?_⟩;try (intro W af;replace HM:=ab af;clear af))|(show ai _ _ _ _ _ _ ((_,0)::_) _;refine bR 133 (k:=0) rfl rfl rfl (by kernel_rfl) _ _ rfl rfl rfl Tryz.underlying133 (by kernel_rfl) (by decide) ?_)|(show ai _ _ _ _ _ _ ((_,0)::_) _;refine bR 133 (k:=1) rfl rfl rfl (by kernel_rfl) _ _ rfl rfl rfl Tryz.underlying133 (by kernel_rfl) (by decide) ?_)|(show ai _ _ _ _ _ _ ((_,0)::_) _;refine bR 133 (k:=2) rfl rfl rfl (by kernel_rfl) _ _ rfl rfl rfl Tryz.underlying133 (by kernel_rfl) (by decide) ?_)|(show ai _ _ _ _ _ _ ((_,0)::_) _;refine bR 133 (k:=4) rfl rfl rfl (by kernel_rfl) _ _ rfl rfl rfl Tryz.underlying133 (by kernel_rfl) (by decide) ?_)|(show ai _ _ _ _ _ _ ((_,0)::_) _;refine bR 133 (k:=5) rfl rfl rfl (by kernel_rfl) _ _ rfl rfl rfl Tryz.underlying133 (by kernel_rfl) (by decide) ?_)|(show ai _ _ _ _ _ _ ((_,0)::_) _;refine bR 133 (k:=6) rfl rfl rfl (by kernel_rfl) _ _ rfl rfl rfl Tryz.underlying133 (by kernel_rfl) (by decide) ?_)|(show ai _ _ _ _ _ _ ((_,0)::_) _;refine bR 133 (k:=7) rfl rfl rfl (by kernel_rfl) _ _ rfl rfl rfl Tryz.underlying133 (by kernel_rfl) (by decide) ?_)|(show ai _ _ _ _ _ _ ((_,0)::_) _;refine bR 145 rfl rfl rfl (by kernel_rfl) _ _ rfl rfl rfl Tryz.underlying145 (by kernel_rfl) aV ?_)|(show ai _ _ _ _ _ _ ((_,1)::_) _;refine fK 65 rfl rfl rfl (by kernel_rfl) _ rfl rfl Tryz.underlying65 (by with_reducible first|exact(v8 HM.out).1|exact(v8 HM.out).2.1|exact(v8 HM.out).2.2.1|exact(v8 HM.out).2.2.2.1|exact(v8 HM.out).2.2.2.2.1|exact(v8 HM.out).2.2.2.2.2.1|exact(v8 HM.out).2.2.2.2.2.2.1|exact(v8 HM.out).2.2.2.2.2.2.2|exact CK.out _ HM.out) ?_));go_upto_region 21 with (first|(show Code.wp _ (Code.region 20 _ _) _ _ _;refine aQ [(0,0),(1,0)] [] [(2,8)] bx (by kernel_rfl) (by intro c a d v w h;cases d<;>exact h) trivial (aH ?_);replace HM:=ab HM.out.drew)|(show ai _ _ _ _ _ _ [] _;refine bj ?_)|(show cu _ _ _ _ _ _ [] _ _;refine bm HM.out ?_;intro W af;simp only[adj,adh,List.set_cons_zero,List.set_cons_succ] at af;replace HM:=ab af;clear af)|(show ai _ _ _ _ _ _ [] _;refine ay (fun K hK=>?_);simp only[aG];go_simp;refine hK _ ?_;clear hK K)|(show ai _ _ _ _ _ _ ((_,0)::_) _;refine db rfl rfl rfl (by kernel_rfl) 133 _ (some _) none rfl (RY _) ?_)|(show ai _ _ _ _ _ _ ((_,0)::_) _;refine db rfl rfl rfl (by kernel_rfl) 133 _ none (some _) rfl (RZ _) ?_)|(show ai _ _ _ _ _ _ ((_,8)::_) _;refine j3 HM.out rfl rfl rfl (by kernel_rfl) aax _ _ rfl ⟨0,_,_,_,_,_,_,_,gV+1,_,_,dY [a0,a1,a2,a3,a4,a5,a6],rfl,rfl,rfl,rfl,sl8 HM.out,by simp[dY],by intro v hv;simp[dY] at hv;rcases hv with rfl|rfl|rfl|rfl|rfl|rfl|rfl<;>rfl,?_⟩;intro W af;replace HM:Hid (Mem w W [(gV,133,(dY [a0,a0,a1,a2,a3,a4,a5,a6]).toArray),(gW,145,ws)]):=ab af;clear af));go_wp2_with (first|(show wpList _ _ _ (⟨some 154,_,_,_,_,_⟩::_) _ _;refine ag 0 [(0,0),(1,1),(2,0),(3,0),(4,0),(5,3)] rfl (by kernel_rfl) ?_)|(show wpList _ _ _ (⟨some 161,_,_,_,_,_⟩::_) _ _;refine ag 2 [(2,0),(3,0),(4,3)] rfl (by kernel_rfl) ?_)|(show ai _ _ _ _ _ _ ((_,0)::_) _;refine aj rfl rfl rfl (by kernel_rfl) _ (.inl rfl) (v:=.int _ _) rfl ?_)|(show ai _ _ _ _ _ _ ((_,0)::_) _;refine j2 rfl rfl rfl (by kernel_rfl) _ _ rfl rfl rfl ?_)|(show ai _ _ _ _ _ _ [] _;refine ay (fun K hK=>?_);simp only[aG];go_simp;refine hK _ ?_;clear hK K)|(show ai _ _ _ _ _ _ ((_,0)::_) _;refine bR 133 (k:=0) rfl rfl rfl (by kernel_rfl) _ _ rfl rfl rfl Tryz.underlying133 (by kernel_rfl) (by decide) ?_)|(show ai _ _ _ _ _ _ ((_,0)::_) _;refine bR 133 (k:=4) rfl rfl rfl (by kernel_rfl) _ _ rfl rfl rfl Tryz.underlying133 (by kernel_rfl) (by decide) ?_)|(show ai _ _ _ _ _ _ ((_,1)::_) _;refine fK 65 rfl rfl rfl (by kernel_rfl) _ rfl rfl Tryz.underlying65 (by with_reducible exact(v8 HM.out).2.2.2.2.1) ?_)|(show ai _ _ _ _ _ _ ((_,3)::_) _;refine n5 HM.out 65 _ _ rfl rfl Tryz.underlying65 (by kernel_rfl) ?_;refine⟨0,_,_,_,_,_,rfl,rfl,rfl,rfl,rfl,(by simp[dY]),?_⟩;intro W af;replace HM:=ab af;clear af));refine⟨⟨k+1,T+U,a0,a1,a2,a3+T,a4,a5,a6,by omega,rfl,ab ?_,ab HM.out⟩,by simp[intOf];omega⟩;show Kf _ _ (sa ks b _ k)=_;rw[hR.out,←NN.out,←WJ.out,HT.out,HU.out];rfl
   obtain rfl:k=80:=by omega
   obtain⟨ss,zF⟩:∃ss,ss=[s0,s1,s2,s3,s4,s5,s6,s7]:=⟨_,rfl⟩;obtain⟨vs,CV⟩:∃vs,vs=[a0,a1,a2,a3,a4,a5,a6,a7]:=⟨_,rfl⟩;have lE:ss.length=8:=by rw[zF];rfl
   have CZ:vs.length=8:=by rw[CV];rfl
   have hG:wr.heap[gs]?=some (.cells (dY ss++([]:List Value)).toArray E1 (0,0)):=by rw[zF,List.append_nil];exact(HM.out.hb.block gs HLT.out.1).trans R1.out
   have hv:wr.heap[gV]?=some (.cells (dY vs).toArray 133 (0,0)):=by rw[CV];exact HM.out.at_ 0 rfl
   have lW:Hid (jJ ks b [s0,s1,s2,s3,s4,s5,s6,s7]=List.zipWith (·+·) ss vs):=by
    show jJ _ _ _=_;rw[jJ,hR.out,zF,CV]
   have jI:w.grownBy wr (some gs):=by
    have hb:=HM.out.hb;exact⟨hb.os,hb.tape,hb.output,hb.size,fun j hj _=>hb.block j hj⟩
   have hvw:w.heap.size≤gV:=(HM.out.rows _ (.head _)).2;have pG:gs<w.heap.size:=HLT.out.1;have HG:=ab hG;have HV:=ab hv;clear zF CV hR hG hv HM;go_wp2_with fail;go_loopw [164] (fun i wq=>∃k:Nat,k≤8∧i=.int .i64 k∧Hid (wq.heap[gs]?=some (.cells (dY (dG ss vs k)++([]:List Value)).toArray E1 (0,0)))∧Hid (wq.heap[gV]?=some (.cells (dY vs).toArray 133 (0,0)))∧w.grownBy wq (some gs)) (fun i _=>8-(intOf i).toNat)
   case atStart=>exact⟨0,adF _,rfl,by rw[sb];exact HG,HV,jI⟩
   case round=>
    clear HG HV jI;obtain⟨k,hk,rfl,hG,hV,jI⟩:=hrel
    by_cases aV:k<8
    · obtain⟨x,hx⟩:=ae (ss.getD k 0)
      obtain⟨y,hy⟩:=ae (vs.getD k 0);have cx:wr.cell? ⟨gs,k,none⟩=some (.int .u64 (x.toNat:Int)):=by rw[adn wr gs k _ _ (0,0) hG.out,wR ss vs lE CZ ([]:List Value) k aV,hx]
      have cy:wr.cell? ⟨gV,k,none⟩=some (.int .u64 (y.toNat:Int)):=by rw[adn wr gV k _ _ (0,0) hV.out,hy];simp[dY,CZ,aV]
      have fx:=frozen_of_row wr gs k _ _ hG.out;have Hx:=ab hx;have Hy:=ab hy;clear hx hy;go_wp2_with fail;refine aE [(0,0),(1,0),(2,0),(3,0),(4,1),(5,0),(6,0),(7,1),(8,0),(9,0),(10,0),(11,2)] 11 bx (by kernel_rfl) (by intro c a d v w h;cases d<;>exact h) ?_
      repeat ((first|(refine ao rfl (fun K hK=>?_))|(refine aD rfl (fun K hK=>?_)));go_simp;(first|(refine hK _ ?_) );clear hK K;(try go_bits))
      refine ah rfl rfl (fun K hK=>?_);go_wp2;refine⟨.inl (by decide),aB ?_⟩;go_wp2;rw[show IntKind.u64.wrap ((x.toNat:Int)+(y.toNat:Int))=((x+y).toNat:Int) from Kg x y];refine⟨⟨_,.int .i64 ((k:Int)+1),_,_,_,_,_,_,_,_,_,_,_,_,_,_,⟨k+1,by omega,by go_num,?_,?_,?_⟩,rfl⟩,?_⟩
      · show _=_
        rw[heap_drew,heap_setCell_same _ gs k _ _ _ hG.out,Hx.out,Hy.out,tH ss vs lE CZ ([]:List Value) k aV]
      · show _=_
        rw[heap_drew,heap_setCell_other _ _ _ _ (by show gV≠gs;omega)];exact hV.out
      · exact⟨jI.os,jI.tape,jI.output,by have:=jI.size;simpa using this,fun j hj bN=>by rw[heap_drew,heap_setCell_other _ _ _ _ (by show j≠gs;exact fun e=>bN (by rw[e]))];exact jI.block j hj bN⟩
      simp[intOf];omega
    obtain rfl:k=8:=by omega
    go_wp2_with fail;go_end0;refine⟨rfl,?_,jI⟩;rw[hG.out,tG ss vs lE CZ,←lW.out,List.append_nil]
end Go.Proofs.YtnlkdheaohocnaaGreatDoor
namespace Go.Proofs.YtnlkdheaohocnaaGreatDoor
open Go Go.RowKit Go.Shelf
attribute [local go_sem] Oper.semAt_some
def p6 (M:List UInt8) (xs:List Nat):List (BitVec 64):=xs.foldl (fun st x=>jJ o9 ((M.drop x).take 128) st) lR
theorem yC (M:List UInt8) (q:Nat):p6 M (jL q 128)=lS lR M q:=by
 induction q with
 |zero=>rfl
 |succ q ih=>
  rw[p6,jL] at ih;rw[p6,jL,List.range_succ,List.map_append,List.foldl_append,ih];rfl
def Sl8 (cur:Array Value) (x:Nat) (bs:List UInt8):Prop:=∀j (h:j<bs.length),cur[x+j]?=some (.int .u8 (bs[j].toNat:Int))
theorem yD (M:List UInt8) (xs:List Nat):(p6 M xs).length=8:=by
 have h:∀(xs:List Nat) (st:List (BitVec 64)),st.length=8→(xs.foldl (fun st x=>jJ o9 ((M.drop x).take 128) st) st).length=8:=by
  intro xs
  induction xs with
  |nil=>intro st h;exact h
  |cons x xs ih=>intro st h;exact ih _ (by rw[oQ,h])
 exact h xs _ kY
theorem DW (M:List UInt8) (xs:List Nat) (x:Nat):p6 M (xs++[x])=jJ o9 ((M.drop x).take 128) (p6 M xs):=by
 rw[p6,List.foldl_append];rfl
theorem XP {st:List (BitVec 64)} (h:st.length=8):(Tryz.prog.info? 133).map (·.size)=some (dY st).toArray.size:=by
 rw[List.size_toArray,W64_length,h];kernel_rfl
theorem szK:(Tryz.prog.info? 145).map (·.size)=some (dY o9).toArray.size:=by
 rw[List.size_toArray,W64_length,jq];kernel_rfl
theorem SJ:Tryz.prog.built 133 [(0,.int .u64 7640891576956012808),(1,.int .u64 13503953896175478587),(2,.int .u64 4354685564936845355),(3,.int .u64 11912009170470909681),(4,.int .u64 5840696475078001361),(5,.int .u64 11170449401992604703),(6,.int .u64 2270897969802886507),(7,.int .u64 6620516959819538809)]=some (dY lR).toArray:=by kernel_rfl
theorem Ib {o:Oper} (ho:o.op=.alloc 45) (ρ:Operand→Value) (W:World):(execOp ρ o).run Tryz.prog W=.ok (.value (.pointer (some ⟨W.heap.size,0,none⟩))) (W.alloc (.cells (Array.replicate 64 (.int .u8 0)) 45)):=by
 unfold execOp;rw[ho];go_simp;rfl
theorem Ic {o:Oper} (ho:o.op=.alloc 145) (ρ:Operand→Value) (W:World):(execOp ρ o).run Tryz.prog W=.ok (.value (.pointer (some ⟨W.heap.size,0,none⟩))) (W.alloc (.cells (jr [] 0).toArray 145)):=by
 unfold execOp;rw[ho];go_simp;rfl
theorem OS (n:Nat) (hn:3≤n) (A:Option Addr) (c:Nat) (b:List UInt8) (hl:b.length≤2048) (jT:b.length≤c) (hc:c≤maxLen) (w:World) (hs:Sl w w.heap.size A (B8 b)):
 CallsIn Fence.wide n Tryz.prog 53 #[.slice A b.length c] w fun e W'=>e=.returned (.agg (B8 (mu b)).toArray)∧Below w.heap.size w W':=by
 have h1:1≤n:=by omega
 have hF:∀k,Fence.wide.fn k:=fun _=>trivial
 have nf:Fence.wide.round=none:=rfl;have Hl:=ab hl;have Hs:=ab hs;have HM:=ab (Mem.start w);clear hl hs;refine callsIn_of_wp_marks Tryz.func53 rfl (hF _) ?_ nf;simp only[Tryz.ntmps53,List.size_toArray,adz,List.length_nil,Nat.reduceAdd,Nat.reduceSub,Array.replicate_succ,Array.replicate_zero,List.push_toArray,List.append_toArray,adj,adh];refine wpIn_wide.2 ?_;go_upto_region 3 with (first|(show wpList _ _ _ (⟨some 2,_,_,_,_,_⟩::_) _ _;refine ag 0 [(0,6)] rfl (by kernel_rfl) ?_)|(show wpList _ _ _ (⟨some 11,_,_,_,_,_⟩::_) _ _;refine ag 0 [(0,0),(1,6),(2,3)] rfl (by kernel_rfl) ?_)|(show wpList _ _ _ (⟨some 12,_,_,_,_,_⟩::_) _ _;refine ag 0 [(0,4),(1,6),(2,3)] rfl (by kernel_rfl) ?_)|(show ai _ _ _ _ _ _ ((_,6)::_) _;refine aq HM.out rfl rfl rfl (by kernel_rfl) (Ib rfl) ?_;intro W gN af;replace HM:=ab af;clear af)|(show ai _ _ _ _ _ _ ((_,6)::_) _;refine aq HM.out rfl rfl rfl (by kernel_rfl) (Ic rfl) ?_;intro W gN af;replace HM:=ab af;clear af)|(show ai _ _ _ _ _ _ ((_,0)::_) _;refine aM rfl rfl rfl (by kernel_rfl) 133 _ rfl SJ rfl ?_)|(show ai _ _ _ _ _ _ ((_,6)::_) _;refine aq HM.out rfl rfl rfl (by kernel_rfl) (q9 rfl) ?_;intro W gN af;replace HM:=ab af;clear af)|(show ai _ _ _ _ _ _ ((_,3)::_) _;refine an HM.out 133 _ _ rfl rfl ?_;(first|(refine⟨0,_,_,_,_,rfl,rfl,rfl,rfl,rfl,(XP kY),rfl,(pN _),?_⟩) );intro W af;simp only[adj,adh,List.set_cons_zero,List.set_cons_succ] at af;replace HM:=ab af;clear af)|(show ai _ _ _ _ _ _ ((_,3)::_) _;refine an HM.out 145 _ _ rfl rfl ?_;(first|(refine⟨0,_,_,_,_,rfl,rfl,rfl,rfl,rfl,szK,rfl,(pN _),?_⟩) );intro W af;simp only[adj,adh,List.set_cons_zero,List.set_cons_succ] at af;replace HM:=ab af;clear af)|((first|(show ai _ _ _ _ _ _ ((_,4)::_) _;refine aw (f:=96) HM.out rfl rfl rfl rfl ?_));refine⟨_,_,Tryz.func96,by kernel_rfl,by kernel_rfl,by kernel_rfl,fun W hW=>Kq _,?_⟩;try (intro W af;replace HM:=ab af;clear af))|(show ai _ _ _ _ _ _ [] _;refine ay (fun K hK=>?_);simp only[aG];go_simp;refine hK _ ?_;clear hK K));rename_i gO _ gS _ _ _ _ _;obtain⟨w5,FF⟩:=ae W;rw[←FF] at HM⊢;clear FF;obtain⟨gk,th⟩:∃g,g=gN:=⟨_,rfl⟩;rw[←th] at HM;simp only[←th];clear th;have eD:=(adg.1 (HM.out.at_ 2 rfl)).1;have G3:=(adg.1 (HM.out.at_ 1 rfl)).1;have Sg:=(adg.1 (HM.out.at_ 0 rfl)).1;have FG:=(Hs.out.below HM.out.hb).mono HM.out.hb.size;go_wp2_with fail;refine(j4 A c b w5 FG (by have:=Hl.out;omega)).mono ?_;clear FG;rintro e w6 ⟨v6,rfl,H6,qR⟩;obtain⟨A6,c6,rfl,hc6,aaV⟩:=bw H6;have CZ:=Hl.out;go_wp2_with fail;refine(GD b.length (by have:=Hl.out;omega) w6).mono ?_;rintro e w7 ⟨v7,rfl,ru,FI⟩;obtain⟨A7,c7,rfl,XA,XB⟩:=bw ru;obtain⟨Tl,vD⟩:∃T,T=mW b.length:=⟨_,rfl⟩;have hTz:Tl.length≤144:=by rw[vD,←pa,lD _ _ (adi _)];omega
 rw[←vD] at ru XA⊢;obtain⟨tz,htz⟩:∃t,t=Tl.length:=⟨_,rfl⟩;rw[←htz] at XA hTz⊢;have hsT:=ru.sl;have SK:=H6.below FI (adi _);have XQ:w5.heap.size≤w7.heap.size:=Nat.le_trans qR.size FI.size;have QC:(B8 Tl).length=tz:=by rw[B8_length,htz]
 have HTl:=ab vD;have Htz:=ab htz;have QD:=ab QC;clear vD htz QC H6 ru;go_wp2_with (at_builtin;go_loud (refine aX (m:=tz) (c:=c7) (base:=w5.heap.size) (xs:=B8 b) (v:=.slice A6 b.length c6) (A:=A7) (B:=w7.heap.size) (news:=B8 Tl) lC rfl (.tmp 14) (.tmp 18) rfl rfl SK rfl hsT QD.out (aR _) (by rw[B8_length];simp[maxLen];omega) (by rw[B8_length];omega) XQ ?_);intro v8 w8 AX NR Vx);rw[←bp] at AX;obtain⟨M,hM⟩:∃M,M=b++Tl:=⟨_,rfl⟩;have XR:M=sI b:=by rw[hM,HTl.out];rfl
 rw[←hM] at AX;obtain⟨q,hq⟩:∃q,q=M.length/128:=⟨_,rfl⟩;have H7:M.length=128*q:=by have:=Ae b;rw[←XR] at this;omega
 have hMz:128*q≤2200:=by have:=Ag b;rw[←XR] at this;omega
 have hMp:0<q:=by
  have h:17≤M.length:=by rw[XR,nm];omega
  omega
 have Ie:Below w5.heap.size w5 w8:=(qR.trans (FI.mono qR.size)).grown NR XQ (fun r hr=>(SK.row r hr).1)
 obtain⟨g7,c8,p5,rfl,hc8,aaY,XC,DV,XD,AW⟩:∃g7 c8 p5,v8=.slice (some ⟨g7,0,none⟩) (128*q) c8∧128*q≤c8∧c8≤maxLen∧w5.heap.size≤g7∧w8.heap[g7]?=some (.cells p5 5 (0,0))∧c8≤p5.size∧p5.toList.take (128*q)=B8 M:=by
  obtain⟨A1,c1,e,h1,h2,h3⟩:=AX;rw[B8_length,H7] at e h1;obtain⟨g,cur,e',hg,hh,hs,ht⟩:=h3 (by omega);rw[B8_length,H7] at ht;subst e';exact⟨g,c1,cur,e,h1,h2,hg,hh,hs,ht⟩
 have H8:Hid (∀x,x+128≤M.length→Sl8 p5 x ((M.drop x).take 128)):=ab fun x hx j hj=>by
  rw[adq,adH] at hj;have hjM:x+j<M.length:=by omega
  have h:(p5.toList.take (128*q))[x+j]?=(B8 M)[x+j]?:=by rw[AW]
  rw[List.getElem?_take_of_lt (by omega),Array.getElem?_toList] at h;rw[h,adp (by rw[B8_length];exact hjM),ed];simp
 obtain⟨R,hR⟩:=ae w5.heap.size;have HM8:=HM.out.below Ie;have SL:g7<w8.heap.size:=(adg.1 DV).1;have XH:=Ie.size;have HMs:=ab XR;have HMl:=ab H7;have Hq:=ab hq;clear hM XR hq AW Ie qR FI SK hsT HTl Htz QD NR Vx AX XQ XD;go_wp2_with fail;refine((callsIn_wide (n:=n)).1 (AF Fence.wide hF nf n (some ⟨g7,0,none⟩) (128*q) c8 128 (by omega) w8)).mono ?_;rintro e w9 ⟨rfl,XS⟩;have SM:Below w8.heap.size w8 w9:=by rw[XS];exact((adl _ _).alloc (adi _) _).alloc (by simp) _
 have b8:Boxed w9 w8.heap.size 22 (.slice (some ⟨g7,0,none⟩) (128*q) c8):=by rw[XS];exact(Boxed.new w8 _ _).alloc _
 have b9:Boxed w9 (w8.heap.size+1) 3 (.int .i64 128):=by
  rw[XS];have:=Boxed.new (w8.alloc (.cells #[.slice (some ⟨g7,0,none⟩) (128*q) c8] 22)) 3 (.int .i64 128)
  rw[adD] at this;exact this
 have hz9:w9.heap.size=w8.heap.size+1+1:=by rw[XS];simp
 clear XS;obtain⟨Bs,rf⟩:=ae w8.heap.size;rw[←rf] at b8 b9 hz9 XH SL⊢;have Lg:=HM8.below SM;have g79:=(SM.block g7 (by omega)).trans DV;have gO9:=Lg.at_ 2 rfl;have gS9:=Lg.at_ 1 rfl;have gk9:=Lg.at_ 0 rfl;have XT:=(List.pairwise_cons.1 (List.pairwise_cons.1 Lg.ne).2).1 _ (List.mem_singleton.2 rfl);have SN:=(List.pairwise_cons.1 Lg.ne).1 _ (.head _);have aaZ:=(List.pairwise_cons.1 Lg.ne).1 _ (.tail _ (.head _));have DX:=Lg.hb;have hwO:=(Lg.rows _ (.tail _ (.tail _ (.head _)))).2;have hwS:=(Lg.rows _ (.tail _ (.head _))).2;have hwk:=(Lg.rows _ (.head _)).2;have SO:w.heap.size≤w9.heap.size:=DX.size;have XU:Bs+1<w9.heap.size:=by omega
 have zK:g7<Bs:=SL;have XV:gO<Bs:=by omega
 have If:gS<Bs:=by omega
 have hkB:gk<Bs:=by omega
 have hS7:gS≠g7:=by omega
 clear HM HM8 Lg SM DV XH rf SL hR;simp only at XT SN aaZ hwO hwS hwk;go_wp2_with fail;refine(wpIn_wide (n:=n)).1 ?_
 refine wpIn_rangeFunc_ownG (a₁:=?frA) nf h1 (gf:=116) (lb:=#[.pointer (some ⟨Bs,0,none⟩),.pointer (some ⟨Bs+1,0,none⟩)]) rfl (hF _) (enters_of Tryz.func116 (by kernel_rfl) rfl)
  (sg Fence.wide hF nf (n-1) (by omega) Bs w.heap.size g7 g7 0 c8 128 q (by omega) hc8 (by omega) (α:={x:Nat //∃j,j<q∧x=128*j}) (·.1) (fun j h=>⟨⟨128*j,j,h,rfl⟩,rfl⟩) w9 SO XU (by omega) b8.cell b9.cell)
  KeepC.trans (KeepC.b SO XU (by omega)) (adl _ _) (fun _=>rfl)
  (fun pre W=>(W.heap[gS]?=some (.cells (dY (p6 M (pre.map (·.1)))).toArray 133 (0,0))∧W.heap[gO]?=some (.cells (Array.replicate 64 (.int .u8 0)) 45 (0,0))∧W.heap[gk]?=some (.cells (dY o9).toArray 145 (0,0))∧
   W.heap[g7]?=some (.cells p5 5 (0,0))∧W.heap[Bs]?=w9.heap[Bs]?∧W.heap[Bs+1]?=w9.heap[Bs+1]?)∧Below w.heap.size w9 W)
  (fun _ _ _=>False)
  (OwnFrom.and (Go.Own.from (fun s A B row hs hg hr=>let ⟨h0,h1,h2,h3,h8,h9⟩:=hs;⟨cM h0 hg hr,cM h1 hg hr,cM h2 hg hr,cM h3 hg hr,(cM (h8.trans b8) hg hr).trans b8.symm,(cM (h9.trans b9) hg hr).trans b9.symm⟩) _) (ownFrom_below (by omega) (by omega)))
  (fun _ _ _ _ _ hs _ _=>hs)
  ⟨⟨gS9,gO9,gk9,g79,rfl,rfl⟩,adl _ _⟩
  ?assign ?body ?done ?stop
 case assign=>
  intro l x W K hK
  gi_wp2
  exact hK
 case stop=>
  rintro D c pre W _ _ h _;exact h.elim
 case done=>
  rintro D ys W hD pq ⟨⟨JZ,OT,XW,Vy,k8,k9⟩,pr⟩ hK;have XX:ys.map (·.1)=jL q 128:=pq;rw[XX,yC] at JZ;obtain⟨st,fT⟩:=ae (lS lR M q);rw[←fT] at JZ;have nh:st.length=8:=by rw[fT,kZ];rfl
  have lW:kQ st=mu b:=by rw[fT,mu,←HMs.out,←Hq.out]
  have hDW:D<W.heap.size:=(adg.1 hK).1;have hOW:gO<W.heap.size:=(adg.1 OT).1;obtain⟨Z,hZ⟩:=ae W.heap.size;have HgS:=ab (jj (o':=.cells (Array.replicate 64 (.int .u8 0)) 45) JZ);have HgO:=ab OT;have HK:=ab hK;have Vt:=ab hD;have Hsl:=ab nh;have p7:=ab lW;have Hi8:=ab (XP nh);clear XW Vy k8 k9 pq XX JZ OT hK hD nh fT lW;go_wp2_with (refine adw rfl 133 (.tmp 3) rfl gS rfl 133 (dY st).toArray (0,0) (.array 8 65) HgS.out (by kernel_rfl) rfl Hi8.out ?_);obtain⟨tc,zC⟩:∃tc,tc=(dY st).toArray:=⟨_,rfl⟩;rw[←zC];have St:=ab zC;have rn:(kQ st).length=64:=by rw[nl,Hsl.out]
  obtain⟨oc,fU⟩:∃oc,oc=(B8 (kQ st)).toArray:=⟨_,rfl⟩;have dv:oc.size=64:=by rw[fU];simp[rn]
  have cG:Hid ((Tryz.prog.info? 45).map (·.size)=some oc.size):=ab (by rw[dv];kernel_rfl);have gn:Hid (oc.all (·.oneCell')=true):=ab (by rw[fU];exact all_oneCell_toArray (aR _));have pH:=ab fU;have jy:=ab dv;have Hol:=ab rn;rw[←hZ];have H9:Below Z W (W.alloc (.cells (Array.replicate 64 (.int .u8 0)) 45)):=by rw[hZ];exact(adl _ _).alloc (adi _) _
  have XK:Fill (W.alloc (.cells (Array.replicate 64 (.int .u8 0)) 45)) Z 45 64 (B8 (kQ st)) (8*0):=by rw[hZ];exact Fill.new' W _ 64 (.int .u8 0) _
  have hZO:gO<Z:=by omega
  have hZD:D<Z:=by omega
  clear zC fU dv rn hZ;go_loopw [26] (fun i wr=>∃k:Nat,k≤8∧i=.int .i64 k∧Fill wr Z 45 64 (B8 (kQ st)) (8*k)∧Below Z W wr) (fun i _=>8-(intOf i).toNat)
  case atStart=>exact⟨0,adF _,rfl,XK,H9⟩
  case round=>
   clear XK H9;obtain⟨k,hk,rfl,bn,l0⟩:=hrel
   by_cases aV:k<8
   · have OO:=Hsl.out
     obtain⟨x,hx⟩:∃x,x=st[k]'(by omega):=⟨_,rfl⟩
     have tX:=oP (P:=Tryz.prog) 133 65 8 tc .i64 k (.int .u64 (x.toNat:Int)) (by kernel_rfl) (by kernel_rfl) (by kernel_rfl) aV (by rw[St.out];simp[dY,OO,aV,hx])
     have XY:∀j,j<8→(kQ st)[8*k+j]?=some (UInt8.ofNat (x.toNat/2^(56-8*j))):=fun j hj=>by
      have h:=Fp st (8*k+j) (by omega);rw[h];simp only[show (8*k+j)/8=k by omega,show (8*k+j)%8=j by omega,hx]
     have Hbe:=ab XY;clear hx OO XY;go_wp2_with fail;clear tX;go_loopw [30] (fun i wr=>∃j:Nat,j≤8∧i=.int .i64 j∧Fill wr Z 45 64 (B8 (kQ st)) (8*k+j)∧Below Z W wr) (fun i _=>8-(intOf i).toNat)
     case atStart=>exact⟨0,adF _,rfl,bn,l0⟩
     case round=>
      clear bn l0;obtain⟨j,hj,rfl,bn,l0⟩:=hrel
      by_cases OU:j<8
      · obtain⟨sh,NP⟩:∃sh,sh=56-8*j:=⟨_,rfl⟩
        have esh:(56:Int)-8*(j:Int)=(sh:Int):=by omega
        obtain⟨v0,WZ⟩:=bn.cell (j:=8*k+j) (by omega);have wV:=bn.frozen (8*k+j);have aci:sh≤56:=by omega
        have Hsh:=ab NP;clear NP;go_wp2_with fail
        have hv:(B8 (kQ st))[8*k+j]?=some (Value.int IntKind.u8 ((x.toNat:Int)/2^sh%256)):=by
         rw[B8,List.getElem?_map,Hbe.out j OU,←Hsh.out];show some (Value.int IntKind.u8 ((UInt8.ofNat (x.toNat/2^sh)).toNat:Int))=_;rw[UInt8.toNat_ofNat',Int.natCast_emod,Int.natCast_ediv,Int.natCast_pow];rfl
        exact⟨⟨j+1,by omega,rfl,bn.set (by omega) hv,l0.setCell (p:=⟨Z,8*k+j,none⟩) (adi _) _⟩,by simp[intOf];omega⟩
      obtain rfl:j=8:=by omega
      go_wp2_with fail;exact⟨⟨k+1,by omega,rfl,bn,l0⟩,by simp[intOf];omega⟩
   obtain rfl:k=8:=by omega
   have dW:=bn.done (by rw[B8_length,Hol.out]);rw[←pH.out] at dW;have pW:=ab dW;have Lf:=ab ((l0.block gO hZO).trans HgO.out);have XL:=ab ((l0.block D hZD).trans HK.out);clear dW bn;go_wp2_with (first|(refine adw rfl 45 (.tmp 7) rfl Z rfl 45 oc (0,0) (.array 64 5) pW.out (by kernel_rfl) rfl cG.out ?_)|(refine ado rfl 45 (.tmp 2) (.tmp 46) rfl gO oc rfl rfl 45 _ Lf.out cG.out (by rw[jy.out];simp) gn.out ?_));have hDO:gO≠D:=by have:=Vt.out;omega
   have Vu:(wr.setRow gO oc).heap[D]?=some (.deferred (some [])):=(setRow_other _ _ _ _ (Ne.symm hDO)).trans XL.out;have vE:Below w.heap.size w (wr.setRow gO oc):=au ((DX.trans pr).trans (l0.mono (by omega))) hwO oc;refine⟨by simp,.inl ⟨_,_,rfl,run_takeDeferred Vu,?_⟩⟩;refine⟨_,adr rfl _ _ gO 45 oc (0,0) (.array 64 5) rfl ?_ (by kernel_rfl) rfl cG.out,by rw[pH.out,p7.out],?_⟩
   · exact(World.putObj_heap_other hDO).trans (adt _ _ _ _ _ _ Lf.out)
   exact vE.trans (belowK_b (w:=w9) SO _ D _ _ Vt.out Vu rfl rfl)
 case body=>
  rintro l pre ⟨x,hx⟩ W ⟨⟨JZ,OT,XW,Vy,k8,k9⟩,pr⟩ sM;have hd:1≤n-1-1:=by omega
  have hxM:x+128≤M.length:=by obtain⟨j,hj,rfl⟩:=hx;rw[HMl.out];omega
  have qP:((M.drop x).take 128).length=128:=by rw[adq,adH];omega
  have aa0:=(adg.1 Vy).1
  have nh:Sl W W.heap.size (some ⟨g7,x,none⟩) (B8 ((M.drop x).take 128)):=fun _=>⟨g7,x,rfl,aa0,fun j hj=>by
   rw[adn _ _ _ _ _ (0,0) Vy,H8.out x hxM j (by simpa using hj),ed]⟩
  have ue:=GP gS gk 133 145 (p6 M (pre.map (·.1))) (yD _ _) o9 jq (some ⟨g7,x,none⟩) ((M.drop x).take 128) qP W JZ XW (Ne.symm SN) nh;have oW:=ab ue;have GS:=ab JZ;have GO:=ab OT;have GK:=ab XW;have G7:=ab Vy;clear ue JZ OT XW Vy nh qP
  gi_wp2
  refine CallsIn.inRound l (callsIn_wide.2 (oW.out.mono ?_));rintro e W2 ⟨rfl,hS2,jI⟩
  gi_wp2
  have hzW:=pr.size;have dg:∀k,k<W.heap.size→k≠gS→W2.heap[k]?=W.heap[k]?:=fun k hk hn=>jI.block k hk (fun e=>hn (Option.some.inj e))
  have XO:Below w.heap.size W W2:=(adl _ W).grown jI (by omega) (fun r hr=>by injection hr with hr;omega)
  refine⟨(KeepsOthers.of_grownBy jI fun j o e ho=>by
   injection e with e;subst e;rw[GS.out] at ho;injection ho with ho;subst ho;rfl).from _,⟨XO,dg Bs (by omega) (by omega),dg (Bs+1) (by omega) (by omega),dg g7 (by omega) (Ne.symm hS7)⟩,
   ⟨?_,(dg gO (by omega) (Ne.symm XT)).trans GO.out,(dg gk (by omega) SN).trans GK.out,(dg g7 (by omega) (Ne.symm hS7)).trans G7.out,(dg Bs (by omega) (by omega)).trans k8,(dg (Bs+1) (by omega) (by omega)).trans k9⟩,pr.trans XO⟩
  rw[List.map_append,List.map_cons,List.map_nil,DW];exact hS2
end Go.Proofs.YtnlkdheaohocnaaGreatDoor
