/- Whoever walks down with the secret signs what whoever walks down without it verifies, and the text of either walks the same way (StrongboxKeyed). No condition. -/
import Derived.Test.YtnlkdheaohocnaaGreatDoorU1
import Derived.Test.YtnlkdheaohocnaaGreatDoorU4
import Derived.Test.YtnlkdheaohocnaaGreatDoorU3
import Derived.Test.YtnlkdheaohocnaaGreatDoorU5
import Derived.BigQuiet
import Derived.Shelf.RegionOpen
import Derived.Deep.QuietTactic
import Derived.StillTailTactics
import Derived.Deep.RegionHeld3
import Derived.Deep.RegionWith
import Derived.Deep.WholeRow
set_option maxRecDepth 1000000
set_option maxHeartbeats 16000000
set_option linter.unusedVariables false
set_option linter.unusedSimpArgs false
namespace Go.Proofs.YtnlkdheaohocnaaGreatDoor
open Go.RowKit Go.Shelf
theorem AH (gs gk E1 E2:Nat) (st:List (BitVec 32)) (fT:st.length=8) (rest:List Value) (ks:List (BitVec 32)) (R0:ks.length=64) (A:Option Addr) (c:Nat) (b:List UInt8) (hb:b.length=64) (w:World)
 (kr:w.heap[gs]?=some (.cells (cg st++rest).toArray E1 (0,0))) (th:w.heap[gk]?=some (.cells (cg ks).toArray E2 (0,0))) (bN:gs≠gk) (hs:Sl w w.heap.size A (B8 b)):
 Calls Tryz.prog 113 #[.pointer (some ⟨gs,0,none⟩),.pointer (some ⟨gk,0,none⟩),.slice A 64 c] w fun e W'=>e=.returned (.tuple #[])∧W'.heap[gs]?=some (.cells (cg (tK ks b st)++rest).toArray E1 (0,0))∧w.grownBy W' (some gs):=by
 obtain⟨s0,s1,s2,s3,s4,s5,s6,s7,rfl⟩:∃s0 s1 s2 s3 s4 s5 s6 s7,st=[s0,s1,s2,s3,s4,s5,s6,s7]:=by
  match st,fT with
  |[s0,s1,s2,s3,s4,s5,s6,s7],_=>exact⟨s0,s1,s2,s3,s4,s5,s6,s7,rfl⟩
 have nh:=hs;obtain⟨bb,bo,rfl,iG,jT⟩:=hs.at_ (k:=0) (by omega);clear hs;have R1:=ab kr;have WE:=ab th;clear kr th;go_enter Tryz.func113,Tryz.ntmps113;go_wp2;go_loopw [18] (fun i wr=>∃k:Nat,k≤64∧i=.int .i64 k∧Fill wr w.heap.size 165 64 (cg (RI b)) k∧Below w.heap.size w wr) (fun i _=>64-(intOf i).toNat)
 case atStart=>
  exact⟨0,adF _,rfl,Fill.new w _ _ _,(adl _ w).alloc (adi _) _⟩
 case round=>
  obtain⟨k,hk,rfl,bn,l0⟩:=hrel
  by_cases aV:k<64
  · by_cases GQ:k<16
    · have WY:=nh.below l0
      have aS:∀j,j<4→wr.cell? ⟨bb,bo+(4*k+j),none⟩=some (.int .u8 (((b.getD (4*k+j) 0).toBitVec.setWidth 32).toNat:Int)):=fun j hj=>by
       obtain⟨b',o',e,_,hc⟩:=WY.at_ (k:=0) (by omega)
       cases e
       rw[hc (4*k+j) (by omega),←Fj,List.getD_eq_getElem?_getD,adp (by omega)];rfl
      have c0:=aS 0 (by omega);have c1:=aS 1 (by omega);have c2:=aS 2 (by omega);have c3:=aS 3 (by omega);rw[Nat.add_zero] at c0;obtain⟨x0,xi⟩:∃x0,x0=(b.getD (4*k) 0).toBitVec.setWidth 32:=⟨_,rfl⟩;obtain⟨x1,hx1⟩:∃x1,x1=(b.getD (4*k+1) 0).toBitVec.setWidth 32:=⟨_,rfl⟩;obtain⟨x2,yf⟩:∃x2,x2=(b.getD (4*k+2) 0).toBitVec.setWidth 32:=⟨_,rfl⟩;obtain⟨x3,hx3⟩:∃x3,x3=(b.getD (4*k+3) 0).toBitVec.setWidth 32:=⟨_,rfl⟩;rw[←xi] at c0;rw[←hx1] at c1;rw[←yf] at c2;rw[←hx3] at c3;have Hx:Hid (RH b k=x0<<<24 ||| x1<<<16 ||| x2<<<8 ||| x3):=by subst xi hx1 yf hx3;rfl
      clear xi hx1 yf hx3 aS WY hb nh;have bx:Tryz.prog.follows .mixedOrders=true:=by kernel_rfl
      obtain⟨v0,WZ⟩:=bn.cell aV;have wV:=bn.frozen k;go_wp2;refine aE [(0,0),(1,0),(2,0),(3,0),(4,0),(5,1),(6,0),(7,0),(8,0),(9,0),(10,0),(11,0),(12,0),(13,1),(14,0),(15,0),(16,0),(17,0),(18,0),(19,0),(20,0),(21,0),(22,1),(23,0),(24,0),(25,0),(26,0),(27,0),(28,0),(29,0),(30,0),(31,1),(32,0),(33,0),(34,0),(35,2)] 35 bx (by kernel_rfl) (by intro c a d v w h;cases d<;>exact h) ?_
      repeat ((first|(refine ao rfl (fun K hK=>?_))|(refine aD rfl (fun K hK=>?_)));go_simp;(first|(refine hK _ ?_)|(simp only[IntWalk.iteOmega];go_simp;refine hK _ ?_) );clear hK K;(try go_bits))
      refine ah rfl rfl (fun K hK=>?_);go_wp2;refine⟨.inl (by decide),aB ?_⟩;go_wp2
      have e:bits .or .u32 (bits .or .u32 (bits .or .u32 ((x0.toNat:Int)*16777216%4294967296) ((x1.toNat:Int)*65536%4294967296)) ((x2.toNat:Int)*256%4294967296)) (x3.toNat:Int)=((wd b k).toNat:Int):=by
       rw[Wf b k GQ,Hx.out,←tL,←tL,←tL,←qZ,←qZ,←qZ];rfl
      rw[e];exact⟨⟨k+1,by omega,by go_num,bn.set aV (kg b k aV) |>.drew,(l0.setCell (p:=⟨w.heap.size,k,none⟩) (adi _) _).drew⟩,by simp[intOf];omega⟩
    obtain⟨tV,Au⟩:∃m,m=k-16:=⟨_,rfl⟩;obtain⟨tW,Ax⟩:∃m,m=k-15:=⟨_,rfl⟩;obtain⟨a7,Qr⟩:∃m,m=k-7:=⟨_,rfl⟩;obtain⟨a2,xh⟩:∃m,m=k-2:=⟨_,rfl⟩;have Vl:(k:Int)-16=(tV:Int):=by omega
    have Vm:(k:Int)-15=(tW:Int):=by omega
    have e7:(k:Int)-7=(a7:Int):=by omega
    have e2:(k:Int)-2=(a2:Int):=by omega
    have l16:tV<64:=by omega
    have l15:tW<64:=by omega
    have l7:a7<64:=by omega
    have l2:a2<64:=by omega
    have NL:=bn.known (j:=tV) (by omega) (kg b tV (by omega));have NM:=bn.known (j:=tW) (by omega) (kg b tW (by omega));have c7:=bn.known (j:=a7) (by omega) (kg b a7 (by omega));have c2:=bn.known (j:=a2) (by omega) (kg b a2 (by omega));have Hx:Hid (wd b k=wd b tV+wd b a7+N9 (wd b tW)+Oa (wd b a2)):=by subst Au Ax Qr xh;exact Wg b k GQ
    clear Au Ax Qr xh nh;obtain⟨R3,AA⟩:∃x,x=wd b tV:=⟨_,rfl⟩;obtain⟨Fv,AB⟩:∃x,x=wd b tW:=⟨_,rfl⟩;obtain⟨x7,Qs⟩:∃x,x=wd b a7:=⟨_,rfl⟩;obtain⟨x2,yf⟩:∃x,x=wd b a2:=⟨_,rfl⟩;rw[←AA] at NL Hx;rw[←AB] at NM Hx;rw[←Qs] at c7 Hx;rw[←yf] at c2 Hx;clear AA AB Qs yf;have bx:Tryz.prog.follows .mixedOrders=true:=by kernel_rfl
    obtain⟨v0,WZ⟩:=bn.cell aV;have wV:=bn.frozen k;go_wp2;refine aE [(0,0),(1,0),(2,0),(3,1),(4,0),(5,0),(6,0),(7,1),(8,0),(9,0)] 10 bx (by kernel_rfl) (by intro c a d v w h;cases d<;>exact h) ?_
    repeat ((first|(refine ao rfl (fun K hK=>?_))|(refine aD rfl (fun K hK=>?_)));go_simp;(first|(refine hK _ ?_)|(simp only[IntWalk.iteOmega];go_simp;refine hK _ ?_) );clear hK K;(try go_bits))
    refine aB ?_;go_wp2;obtain⟨r1,kS⟩:∃x,x=Fv.rotateRight 7:=⟨_,rfl⟩;obtain⟨r2,KP⟩:∃x,x=Fv.rotateRight 18:=⟨_,rfl⟩;obtain⟨r3,vC⟩:∃x,x=x2.rotateRight 17:=⟨_,rfl⟩;obtain⟨r4,zI⟩:∃x,x=x2.rotateRight 19:=⟨_,rfl⟩;have q1:=eW Fv 7 (by omega) (by omega);have q2:=eW Fv 18 (by omega) (by omega);have q3:=eW x2 17 (by omega) (by omega);have q4:=eW x2 19 (by omega) (by omega);rw[←kS] at q1;rw[←KP] at q2;rw[←vC] at q3;rw[←zI] at q4;have Hr:Hid (N9 Fv=r1 ^^^ r2 ^^^ (Fv>>>3)∧Oa x2=r3 ^^^ r4 ^^^ (x2>>>10)):=by subst kS KP vC zI;exact⟨rfl,rfl⟩
    clear kS KP vC zI;have Q1:=ab q1;have Q2:=ab q2;have Q3:=ab q3;have Q4:=ab q4;clear q1 q2 q3 q4;refine aE [(0,0),(1,0),(2,0),(3,0),(4,1),(5,0),(6,0),(7,0),(8,1),(9,0),(10,0),(12,0),(15,0),(16,0),(19,0),(21,0),(24,0),(25,0),(11,2),(13,2),(14,0),(17,0),(18,0),(20,2),(22,2),(23,0),(26,0),(27,0),(28,0),(29,2)] 29 bx (by kernel_rfl) (by intro c a d v w h;cases d<;>exact h) ?_
    repeat ((first|(refine ao rfl (fun K hK=>?_))|(refine aD rfl (fun K hK=>?_)));go_simp;(first|(refine hK _ ?_)|(simp only[IntWalk.iteOmega];go_simp;refine hK _ ?_) );clear hK K;(try go_bits))
    refine ah rfl rfl (fun K hK=>?_);go_wp2_with (go_at_call 127;refine(Q1.out _).mono ?_;rintro e w' ⟨rfl,rfl⟩);refine⟨.inr (Ext.refl _),?_⟩
    repeat ((first|refine ao rfl fun K hK=>?_|refine aD rfl fun K hK=>?_);go_simp;(first|refine hK _ ?_|(simp only[IntWalk.iteOmega];go_simp;refine hK _ ?_)|(go_bits;go_simp;refine hK _ ?_));clear hK K;try go_bits)
    refine ah rfl rfl (fun K hK=>?_);go_wp2_with (go_at_call 127;refine(Q2.out _).mono ?_;rintro e w' ⟨rfl,rfl⟩);refine⟨.inr (Ext.refl _),?_⟩
    repeat ((first|(refine ao rfl (fun K hK=>?_)) );go_simp;(first|(refine hK _ ?_) );clear hK K;(try go_bits))
    refine ah rfl rfl (fun K hK=>?_);go_wp2_with (go_at_call 127;refine(Q3.out _).mono ?_;rintro e w' ⟨rfl,rfl⟩);refine⟨.inr (Ext.refl _),?_⟩
    repeat ((first|refine ao rfl fun K hK=>?_|refine aD rfl fun K hK=>?_);go_simp;(first|refine hK _ ?_|(simp only[IntWalk.iteOmega];go_simp;refine hK _ ?_)|(go_bits;go_simp;refine hK _ ?_));clear hK K;try go_bits)
    refine ah rfl rfl (fun K hK=>?_);go_wp2_with (go_at_call 127;refine(Q4.out _).mono ?_;rintro e w' ⟨rfl,rfl⟩);refine⟨.inr (Ext.refl _),?_⟩
    repeat ((first|(refine ao rfl (fun K hK=>?_)) );go_simp;(first|(refine hK _ ?_) );clear hK K;(try go_bits))
    refine ah rfl rfl (fun K hK=>?_);go_wp2;refine⟨.inl (by decide),aB ?_⟩;go_wp2;rw[Wh Fv r1 r2,Wi x2 r3 r4,←Hr.out.1,←Hr.out.2,x9,←Hx.out];exact⟨⟨k+1,by omega,by go_num,bn.set aV (kg b k aV) |>.drew,(l0.setCell (p:=⟨w.heap.size,k,none⟩) (adi _) _).drew.drew⟩,by simp[intOf];omega⟩
  obtain rfl:k=64:=by omega
  have hW:=bn.done (by simp[tJ]);have HW:=ab hW;clear hW bn;have kr:=(l0.block gs (by have:=(adg.1 R1.out).1;exact this)).trans R1.out;have th:=(l0.block gk (by have:=(adg.1 WE.out).1;exact this)).trans WE.out;have c0:wr.cell? ⟨gs,0,none⟩=some (.int .u32 (s0.toNat:Int)):=by rw[adn wr gs 0 _ E1 (0,0) kr];rfl
  have c1:wr.cell? ⟨gs,1,none⟩=some (.int .u32 (s1.toNat:Int)):=by rw[adn wr gs 1 _ E1 (0,0) kr];rfl
  have c2:wr.cell? ⟨gs,2,none⟩=some (.int .u32 (s2.toNat:Int)):=by rw[adn wr gs 2 _ E1 (0,0) kr];rfl
  have c3:wr.cell? ⟨gs,3,none⟩=some (.int .u32 (s3.toNat:Int)):=by rw[adn wr gs 3 _ E1 (0,0) kr];rfl
  have c4:wr.cell? ⟨gs,4,none⟩=some (.int .u32 (s4.toNat:Int)):=by rw[adn wr gs 4 _ E1 (0,0) kr];rfl
  have c5:wr.cell? ⟨gs,5,none⟩=some (.int .u32 (s5.toNat:Int)):=by rw[adn wr gs 5 _ E1 (0,0) kr];rfl
  have c6:wr.cell? ⟨gs,6,none⟩=some (.int .u32 (s6.toNat:Int)):=by rw[adn wr gs 6 _ E1 (0,0) kr];rfl
  have c7:wr.cell? ⟨gs,7,none⟩=some (.int .u32 (s7.toNat:Int)):=by rw[adn wr gs 7 _ E1 (0,0) kr];rfl
  have HGs:=ab kr;have HGk:=ab th;clear kr th nh;have aaB:w.heap.size<wr.heap.size:=(adg.1 HW.out).1;have eD:(cg (RI b)).toArray.size=64:=by simp[tJ]
  obtain⟨ws,AD⟩:∃ws,ws=(cg (RI b)).toArray:=⟨_,rfl⟩
  have bG:∀(t:TypeId) (c:Array Value),(wr.alloc (.cells c t)).heap[w.heap.size]?=some (.cells ws 165 (0,0)):=fun t c=>by
   rw[Below.heap_alloc wr _ _ aaB,AD];exact HW.out
  have lU:(Tryz.prog.info? 165).map (·.size)=some ws.size:=by rw[AD,eD];kernel_rfl
  have WH:=ab AD;have ju:=ab bG;have fe:=ab lU;clear AD eD bG lU;go_wp2_with (refine adw rfl 165 (.tmp 6) rfl w.heap.size rfl 165 ws (0,0) (.array 64 27) (ju.out _ _) (by kernel_rfl) rfl fe.out ?_);obtain⟨wS,rfl⟩:=ae wr;obtain⟨vb,Se⟩:=ae wS.heap.size;rw[←Se];obtain⟨w1,fu⟩:=ae (wS.alloc (.cells #[.int .u32 (s0.toNat:Int),.int .u32 (s1.toNat:Int),.int .u32 (s2.toNat:Int),.int .u32 (s3.toNat:Int),.int .u32 (s4.toNat:Int),.int .u32 (s5.toNat:Int),.int .u32 (s6.toNat:Int),.int .u32 (s7.toNat:Int)] 123))
  rw[←fu];have zJ:w1.heap[vb]?=some (.cells #[.int .u32 (s0.toNat:Int),.int .u32 (s1.toNat:Int),.int .u32 (s2.toNat:Int),.int .u32 (s3.toNat:Int),.int .u32 (s4.toNat:Int),.int .u32 (s5.toNat:Int),.int .u32 (s6.toNat:Int),.int .u32 (s7.toNat:Int)] 123 (0,0)):=by rw[fu,Se];exact adk _ _
  have bH:Below vb wS w1:=by rw[fu,Se];exact(adl _ _).alloc (adi _) _
  have aaC:gs<vb:=by rw[Se];exact(adg.1 HGs.out).1
  have W6:gk<vb:=by rw[Se];exact(adg.1 HGk.out).1
  have Hvb:=ab Se;clear fu Se c0 c1 c2 c3 c4 c5 c6 c7
  go_loopw [100] (fun i wq=>∃(k:Nat) (a0 a1 a2 a3 a4 a5 a6 a7:BitVec 32),k≤64∧i=.int .i64 k∧Hid (Gx ks b [s0,s1,s2,s3,s4,s5,s6,s7] k=[a0,a1,a2,a3,a4,a5,a6,a7])∧
   Hid (wq.heap[vb]?=some (.cells #[.int .u32 (a0.toNat:Int),.int .u32 (a1.toNat:Int),.int .u32 (a2.toNat:Int),.int .u32 (a3.toNat:Int),.int .u32 (a4.toNat:Int),.int .u32 (a5.toNat:Int),.int .u32 (a6.toNat:Int),.int .u32 (a7.toNat:Int)] 123 (0,0)))∧Below vb wS wq) (fun i _=>64-(intOf i).toNat)
  case atStart=>exact⟨0,s0,s1,s2,s3,s4,s5,s6,s7,adF _,rfl,rfl,zJ,bH⟩
  case round=>
   clear zJ bH;obtain⟨k,a0,a1,a2,a3,a4,a5,a6,a7,hk,rfl,hR,hV,hB⟩:=hrel;have xl:=hV.out;have bx:Tryz.prog.follows .mixedOrders=true:=by kernel_rfl
   by_cases aV:k<64
   · have c0:wr.cell? ⟨vb,0,none⟩=some (.int .u32 (a0.toNat:Int)):=by rw[adn _ vb 0 _ _ (0,0) xl];rfl
     have c1:wr.cell? ⟨vb,1,none⟩=some (.int .u32 (a1.toNat:Int)):=by rw[adn _ vb 1 _ _ (0,0) xl];rfl
     have c2:wr.cell? ⟨vb,2,none⟩=some (.int .u32 (a2.toNat:Int)):=by rw[adn _ vb 2 _ _ (0,0) xl];rfl
     have c3:wr.cell? ⟨vb,3,none⟩=some (.int .u32 (a3.toNat:Int)):=by rw[adn _ vb 3 _ _ (0,0) xl];rfl
     have c4:wr.cell? ⟨vb,4,none⟩=some (.int .u32 (a4.toNat:Int)):=by rw[adn _ vb 4 _ _ (0,0) xl];rfl
     have c5:wr.cell? ⟨vb,5,none⟩=some (.int .u32 (a5.toNat:Int)):=by rw[adn _ vb 5 _ _ (0,0) xl];rfl
     have c6:wr.cell? ⟨vb,6,none⟩=some (.int .u32 (a6.toNat:Int)):=by rw[adn _ vb 6 _ _ (0,0) xl];rfl
     have c7:wr.cell? ⟨vb,7,none⟩=some (.int .u32 (a7.toNat:Int)):=by rw[adn _ vb 7 _ _ (0,0) xl];rfl
     have f0:wr.frozen? ⟨vb,0,none⟩=false:=frozen_of_row _ vb 0 _ _ xl;have f1:wr.frozen? ⟨vb,1,none⟩=false:=frozen_of_row _ vb 1 _ _ xl;have f2:wr.frozen? ⟨vb,2,none⟩=false:=frozen_of_row _ vb 2 _ _ xl;have f3:wr.frozen? ⟨vb,3,none⟩=false:=frozen_of_row _ vb 3 _ _ xl;have f4:wr.frozen? ⟨vb,4,none⟩=false:=frozen_of_row _ vb 4 _ _ xl;have f5:wr.frozen? ⟨vb,5,none⟩=false:=frozen_of_row _ vb 5 _ _ xl;have f6:wr.frozen? ⟨vb,6,none⟩=false:=frozen_of_row _ vb 6 _ _ xl;have f7:wr.frozen? ⟨vb,7,none⟩=false:=frozen_of_row _ vb 7 _ _ xl;obtain⟨xw,Fw⟩:∃x,x=wd b k:=⟨_,rfl⟩;obtain⟨xk,oG⟩:∃x,x=ks.getD k 0:=⟨_,rfl⟩
     have ck:wr.cell? ⟨gk,k,none⟩=some (.int .u32 (xk.toNat:Int)):=by
      rw[adn wr gk k _ E2 (0,0) ((hB.block gk W6).trans HGk.out),oG];simp[cg,R0,aV]
     have tX:=ji (P:=Tryz.prog) 165 27 64 ws .i64 k (.int .u32 ((wd b k).toNat:Int)) (by kernel_rfl) (by kernel_rfl) (by kernel_rfl) aV (by rw[WH.out];simpa using kg b k aV);rw[←Fw] at tX;have WJ:=ab Fw;have NN:=ab oG;have HVo:=ab xl;clear Fw oG xl;obtain⟨r1,kS⟩:∃x,x=a4.rotateRight 6:=⟨_,rfl⟩;have qr1:=eW a4 6 (by omega) (by omega);rw[←kS] at qr1;have Qr1:=ab qr1;clear qr1;obtain⟨r2,KP⟩:∃x,x=a4.rotateRight 11:=⟨_,rfl⟩;have qr2:=eW a4 11 (by omega) (by omega);rw[←KP] at qr2;have Qr2:=ab qr2;clear qr2;obtain⟨r3,vC⟩:∃x,x=a4.rotateRight 25:=⟨_,rfl⟩;have qr3:=eW a4 25 (by omega) (by omega);rw[←vC] at qr3;have Qr3:=ab qr3;clear qr3;obtain⟨r4,zI⟩:∃x,x=a0.rotateRight 2:=⟨_,rfl⟩;have qr4:=eW a0 2 (by omega) (by omega);rw[←zI] at qr4;have Qr4:=ab qr4;clear qr4;obtain⟨r5,JX⟩:∃x,x=a0.rotateRight 13:=⟨_,rfl⟩;have qr5:=eW a0 13 (by omega) (by omega);rw[←JX] at qr5;have Qr5:=ab qr5;clear qr5;obtain⟨r6,hr6⟩:∃x,x=a0.rotateRight 22:=⟨_,rfl⟩;have qr6:=eW a0 22 (by omega) (by omega);rw[←hr6] at qr6;have Qr6:=ab qr6;clear qr6;have Hr:Hid (Ob a4=r1 ^^^ r2 ^^^ r3∧RG a0=r4 ^^^ r5 ^^^ r6):=by subst kS KP vC zI JX hr6;exact⟨rfl,rfl⟩
     clear kS KP vC zI JX hr6;go_wp2_with fail;refine aE [(0,0),(1,1),(2,0),(3,1),(4,0),(5,0)] 6 bx (by kernel_rfl) (by intro c a d v w h;cases d<;>exact h) ?_
     repeat ((first|(refine ao rfl (fun K hK=>?_))|(refine aD rfl (fun K hK=>?_)));go_simp;(first|(refine hK _ ?_) );clear hK K;(try go_bits))
     refine aB ?_;go_wp2_with fail;refine aE [(0,0),(1,1),(2,0),(4,0),(7,0),(11,0),(12,0),(13,1),(14,0),(15,0),(16,0),(17,0),(18,1),(19,0),(20,0),(22,0),(23,0),(24,0),(25,0),(26,1),(28,0),(3,2),(5,2),(6,0),(8,2),(9,0),(10,0),(21,0),(27,0),(29,0),(30,0)] 31 bx (by kernel_rfl) (by intro c a d v w h;cases d<;>exact h) ?_
     repeat ((first|(refine ao rfl (fun K hK=>?_))|(refine aD rfl (fun K hK=>?_)));go_simp;(first|(refine hK _ ?_) );clear hK K;(try go_bits))
     refine ah rfl rfl (fun K hK=>?_);go_wp2_with (go_at_call 127;refine(Qr1.out _).mono ?_;rintro e w' ⟨rfl,rfl⟩);refine⟨(by first|exact Ext.refl _),?_⟩
     repeat ((first|refine ao rfl fun K hK=>?_|refine aD rfl fun K hK=>?_);go_simp;(first|refine hK _ ?_|(simp only[IntWalk.iteOmega];go_simp;refine hK _ ?_)|(go_bits;go_simp;refine hK _ ?_));clear hK K;try go_bits)
     refine ah rfl rfl (fun K hK=>?_);go_wp2_with (go_at_call 127;refine(Qr2.out _).mono ?_;rintro e w' ⟨rfl,rfl⟩);refine⟨(by first|exact .inr (Ext.refl _) ),?_⟩
     repeat ((first|(refine ao rfl (fun K hK=>?_)) );go_simp;(first|(refine hK _ ?_) );clear hK K;(try go_bits))
     refine ah rfl rfl (fun K hK=>?_);go_wp2_with (go_at_call 127;refine(Qr3.out _).mono ?_;rintro e w' ⟨rfl,rfl⟩);refine⟨(by first|exact .inr (Ext.refl _) ),?_⟩
     repeat ((first|(refine ao rfl (fun K hK=>?_)) );go_simp;(first|(refine hK _ ?_) );clear hK K;(try go_bits))
     refine aB ?_;go_wp2_with fail;rw[aap a7 a4 a5 a6 xk xw r1 r2 r3,←Hr.out.1];obtain⟨T,hT⟩:∃T,T=a7+Ob a4+ch a4 a5 a6+xk+xw:=⟨_,rfl⟩;rw[←hT];have HT:=ab hT;clear hT;refine aE [(0,0),(2,0),(5,0),(8,0),(9,0),(10,1),(11,0),(12,0),(13,0),(14,1),(15,0),(16,0),(17,0),(18,1),(19,0),(20,1),(21,0),(22,0),(1,2),(3,2),(4,0),(6,2),(7,0),(23,0),(24,0)] 25 bx (by kernel_rfl) (by intro c a d v w h;cases d<;>exact h) ?_
     repeat ((first|(refine ao rfl (fun K hK=>?_))|(refine aD rfl (fun K hK=>?_)));go_simp;(first|(refine hK _ ?_) );clear hK K;(try go_bits))
     refine ah rfl rfl (fun K hK=>?_);go_wp2_with (go_at_call 127;refine(Qr4.out _).mono ?_;rintro e w' ⟨rfl,rfl⟩);refine⟨(by first|exact .inr (Ext.refl _) ),?_⟩
     repeat ((first|refine ao rfl fun K hK=>?_|refine aD rfl fun K hK=>?_);go_simp;(first|refine hK _ ?_|(simp only[IntWalk.iteOmega];go_simp;refine hK _ ?_)|(go_bits;go_simp;refine hK _ ?_));clear hK K;try go_bits)
     refine ah rfl rfl (fun K hK=>?_);go_wp2_with (go_at_call 127;refine(Qr5.out _).mono ?_;rintro e w' ⟨rfl,rfl⟩);refine⟨(by first|exact .inr (Ext.refl _) ),?_⟩
     repeat ((first|(refine ao rfl (fun K hK=>?_)) );go_simp;(first|(refine hK _ ?_) );clear hK K;(try go_bits))
     refine ah rfl rfl (fun K hK=>?_);go_wp2_with (go_at_call 127;refine(Qr6.out _).mono ?_;rintro e w' ⟨rfl,rfl⟩);refine⟨(by first|exact .inr (Ext.refl _) ),?_⟩
     repeat ((first|(refine ao rfl (fun K hK=>?_)) );go_simp;(first|(refine hK _ ?_) );clear hK K;(try go_bits))
     refine aB ?_;go_wp2_with fail;rw[aaq a0 a1 a2 r4 r5 r6,←Hr.out.2];obtain⟨U,hU⟩:∃U,U=RG a0+maj a0 a1 a2:=⟨_,rfl⟩;rw[←hU];have HU:=ab hU;clear hU;refine aE [(0,0),(1,0),(2,2)] 2 bx (by kernel_rfl) (by intro c a d v w h;cases d<;>exact h) ?_
     repeat ((first|(refine ao rfl (fun K hK=>?_)) );go_simp;(first|(refine hK _ ?_) );clear hK K;(try go_bits))
     refine ah rfl rfl (fun K hK=>?_);refine iY (g:=vb) (off:=1) (dLen:=7) (dCap:=7) (A:=some ⟨vb,0,none⟩) (sLen:=7) (sCap:=8) (cur:=#[.int .u32 (a0.toNat:Int),.int .u32 (a1.toNat:Int),.int .u32 (a2.toNat:Int),.int .u32 (a3.toNat:Int),.int .u32 (a4.toNat:Int),.int .u32 (a5.toNat:Int),.int .u32 (a6.toNat:Int),.int .u32 (a7.toNat:Int)]) (t:=123) (cs:=[.int .u32 (a0.toNat:Int),.int .u32 (a1.toNat:Int),.int .u32 (a2.toNat:Int),.int .u32 (a3.toNat:Int),.int .u32 (a4.toNat:Int),.int .u32 (a5.toNat:Int),.int .u32 (a6.toNat:Int)]) (B:=vb+1) elW (.tmp 162) (.tmp 163) rfl rfl rfl HVo.out rfl ?_ (by simp) (by intro v hv;simp at hv;rcases hv with rfl|rfl|rfl|rfl|rfl|rfl|rfl<;>rfl) ?_
     · intro _
       refine⟨vb,0,rfl,by omega,fun j hj=>?_⟩
       match j,hj with
       |0,_=>exact c0
       |1,_=>exact c1
       |2,_=>exact c2
       |3,_=>exact c3
       |4,_=>exact c4
       |5,_=>exact c5
       |6,_=>exact c6
     obtain⟨w2,kT⟩:∃w2,w2=wr.drew.drew.drew.drew.setRow vb #[.int .u32 (a0.toNat:Int),.int .u32 (a0.toNat:Int),.int .u32 (a1.toNat:Int),.int .u32 (a2.toNat:Int),.int .u32 (a3.toNat:Int),.int .u32 (a4.toNat:Int),.int .u32 (a5.toNat:Int),.int .u32 (a6.toNat:Int)]:=⟨_,rfl⟩
     refine hK _ (wr.drew.drew.drew.drew.setRow vb #[.int .u32 (a0.toNat:Int),.int .u32 (a0.toNat:Int),.int .u32 (a1.toNat:Int),.int .u32 (a2.toNat:Int),.int .u32 (a3.toNat:Int),.int .u32 (a4.toNat:Int),.int .u32 (a5.toNat:Int),.int .u32 (a6.toNat:Int)]) ⟨(by first|exact .inl (by decide) ),?_⟩
     clear hK K;refine aB ?_;rw[←kT];have C3:w2.heap[vb]?=some (.cells #[.int .u32 (a0.toNat:Int),.int .u32 (a0.toNat:Int),.int .u32 (a1.toNat:Int),.int .u32 (a2.toNat:Int),.int .u32 (a3.toNat:Int),.int .u32 (a4.toNat:Int),.int .u32 (a5.toNat:Int),.int .u32 (a6.toNat:Int)] 123 (0,0)):=by rw[kT];exact adt _ vb _ _ _ _ HVo.out
     have oV:Below vb wS w2:=by rw[kT];exact below_setRow hB.drew.drew.drew.drew (adi _) _
     clear kT c0 f0 c1 f1 c2 f2 c3 f3 c4 f4 c5 f5 c6 f6 c7 f7 hB hV;have c0:w2.cell? ⟨vb,0,none⟩=some (.int .u32 (a0.toNat:Int)):=by rw[adn _ vb 0 _ _ (0,0) C3];rfl
     have c4:w2.cell? ⟨vb,4,none⟩=some (.int .u32 (a3.toNat:Int)):=by rw[adn _ vb 4 _ _ (0,0) C3];rfl
     have f0:w2.frozen? ⟨vb,0,none⟩=false:=frozen_of_row _ vb 0 _ _ C3;have f4:w2.frozen? ⟨vb,4,none⟩=false:=frozen_of_row _ vb 4 _ _ C3;have G1:=ab C3;clear C3;go_wp2;rw[qX,qX];refine⟨⟨k+1,T+U,a0,a1,a2,a3+T,a4,a5,a6,by omega,by go_num,?_,?_,(oV.setCell (p:=⟨vb,4,none⟩) (adi _) _).setCell (p:=⟨vb,0,none⟩) (adi _) _⟩,by simp[intOf];omega⟩
     · show rnd _ _ (Gx ks b _ k)=_
       rw[hR.out,←NN.out,←WJ.out,HT.out,HU.out];rfl
     show _=_;rw[heap_setCell_same _ vb 0 _ _ _ (heap_setCell_same _ vb 4 _ _ _ G1.out)];rfl
   obtain rfl:k=64:=by omega
   obtain⟨ss,zF⟩:∃ss,ss=[s0,s1,s2,s3,s4,s5,s6,s7]:=⟨_,rfl⟩;obtain⟨vs,CV⟩:∃vs,vs=[a0,a1,a2,a3,a4,a5,a6,a7]:=⟨_,rfl⟩;have lE:ss.length=8:=by rw[zF];rfl
   have CZ:vs.length=8:=by rw[CV];rfl
   have hG:wr.heap[gs]?=some (.cells (cg ss++rest).toArray E1 (0,0)):=by rw[zF];exact(hB.block gs aaC).trans HGs.out
   have hv:wr.heap[vb]?=some (.cells (cg vs).toArray 123 (0,0)):=by rw[CV];exact xl
   have lW:Hid (tK ks b [s0,s1,s2,s3,s4,s5,s6,s7]=List.zipWith (·+·) ss vs):=by
    show tK _ _ _=_;rw[tK,hR.out,zF,CV]
   have jI:w.grownBy wr (some gs):=by
    have Sg:=l0.size;have hb:=l0.trans (hB.mono (show w.heap.size≤vb by rw[Hvb.out];exact Sg));exact⟨hb.os,hb.tape,hb.output,hb.size,fun j hj _=>hb.block j hj⟩
   have HG:=ab hG;have HV:=ab hv;clear zF CV xl hV hR hG hv hB;go_wp2_with fail;go_loopw [175] (fun i wq=>∃k:Nat,k≤8∧i=.int .i64 k∧Hid (wq.heap[gs]?=some (.cells (cg (mixed ss vs k)++rest).toArray E1 (0,0)))∧Hid (wq.heap[vb]?=some (.cells (cg vs).toArray 123 (0,0)))∧w.grownBy wq (some gs)) (fun i _=>8-(intOf i).toNat)
   case atStart=>exact⟨0,adF _,rfl,by rw[Dk];exact HG,HV,jI⟩
   case round=>
    clear HG HV jI;obtain⟨k,hk,rfl,hG,hV,jI⟩:=hrel
    by_cases aV:k<8
    · obtain⟨x,hx⟩:=ae (ss.getD k 0)
      obtain⟨y,hy⟩:=ae (vs.getD k 0);have cx:wr.cell? ⟨gs,k,none⟩=some (.int .u32 (x.toNat:Int)):=by rw[adn wr gs k _ _ (0,0) hG.out,Km ss vs lE CZ rest k aV,hx]
      have cy:wr.cell? ⟨vb,k,none⟩=some (.int .u32 (y.toNat:Int)):=by rw[adn wr vb k _ _ (0,0) hV.out,hy];simp[cg,CZ,aV]
      have fx:=frozen_of_row wr gs k _ _ hG.out;have Hx:=ab hx;have Hy:=ab hy;clear hx hy;go_wp2_with fail;refine aE [(0,0),(1,0),(2,0),(3,0),(4,1),(5,0),(6,0),(7,1),(8,0),(9,0),(10,0),(11,2)] 11 bx (by kernel_rfl) (by intro c a d v w h;cases d<;>exact h) ?_
      repeat ((first|(refine ao rfl (fun K hK=>?_))|(refine aD rfl (fun K hK=>?_)));go_simp;(first|(refine hK _ ?_) );clear hK K;(try go_bits))
      refine ah rfl rfl (fun K hK=>?_);go_wp2;refine⟨.inl (by decide),aB ?_⟩;go_wp2;rw[qX];refine⟨⟨_,.int .i64 ((k:Int)+1),_,_,_,_,_,_,_,_,_,_,_,_,_,_,⟨k+1,by omega,by go_num,?_,?_,?_⟩,rfl⟩,?_⟩
      · show _=_
        rw[heap_drew,heap_setCell_same _ gs k _ _ _ hG.out,Hx.out,Hy.out,Gz ss vs lE CZ rest k aV]
      · show _=_
        rw[heap_drew,heap_setCell_other _ _ _ _ (by show vb≠gs;omega)];exact hV.out
      · exact⟨jI.os,jI.tape,jI.output,by have:=jI.size;simpa using this,fun j hj bN=>by rw[heap_drew,heap_setCell_other _ _ _ _ (by show j≠gs;exact fun e=>bN (by rw[e]))];exact jI.block j hj bN⟩
      simp[intOf];omega
    obtain rfl:k=8:=by omega
    go_wp2_with fail;go_end0;refine⟨rfl,?_,jI⟩;rw[hG.out,Gy ss vs lE CZ,←lW.out]
end Go.Proofs.YtnlkdheaohocnaaGreatDoor
