/- Of any text: the program's descriptors and the reference's are read and written alike (DescParses). No condition. -/
import Derived.Test.YtcjioogololnoaaGreatDoorU1
import Derived.Test.YtcjioogololnoaaGreatDoorU8
set_option maxRecDepth 1000000
set_option maxHeartbeats 16000000
set_option linter.unusedVariables false
set_option linter.unusedSimpArgs false
namespace Go.Proofs.YtcjioogololnoaaGreatDoor
open Go.RowKit Go.Shelf
def zy (b:List UInt8) (t:Nat):Nat→BitVec 32
 |0=>0
 |i+1=>zy b t i*256+(b.getD (4*t+i) 0).toBitVec.setWidth 32
theorem Gh (a c n:Nat) (h:c<2^n):a*2^n ||| c=a*2^n+c:=by
 rw[Nat.mul_comm,←Nat.two_pow_add_eq_or_of_lt h]
theorem Gi (b:List UInt8) (t:Nat):zy b t 4=eT b t:=by
 simp only[zy,eT];obtain⟨x0,e0⟩:∃x,x=b.getD (4*t) 0:=⟨_,rfl⟩;obtain⟨x1,e1⟩:∃x,x=b.getD (4*t+1) 0:=⟨_,rfl⟩;obtain⟨x2,e2⟩:∃x,x=b.getD (4*t+2) 0:=⟨_,rfl⟩;obtain⟨x3,e3⟩:∃x,x=b.getD (4*t+3) 0:=⟨_,rfl⟩;rw[Nat.add_zero,←e0,←e1,←e2,←e3];have h0:=x0.toNat_lt;have h1:=x1.toNat_lt;have h2:=x2.toNat_lt;have h3:=x3.toNat_lt;apply BitVec.eq_of_toNat_eq;simp only[BitVec.toNat_or,BitVec.toNat_shiftLeft,BitVec.toNat_setWidth,BitVec.toNat_add,BitVec.toNat_mul,UInt8.toNat_toBitVec,Nat.shiftLeft_eq,BitVec.toNat_ofNat];rw[agA (show x0.toNat<2^32 by omega),agA (show x1.toNat<2^32 by omega),agA (show x2.toNat<2^32 by omega),agA (show x3.toNat<2^32 by omega)];rw[agA (show x0.toNat*2^24<2^32 by omega),agA (show x1.toNat*2^16<2^32 by omega),agA (show x2.toNat*2^8<2^32 by omega)]
 rw[Gh x0.toNat _ 24 (by omega),show x0.toNat*2^24+x1.toNat*2^16=(x0.toNat*2^8+x1.toNat)*2^16 by omega,Gh _ _ 16 (by omega),
  show (x0.toNat*2^8+x1.toNat)*2^16+x2.toNat*2^8=((x0.toNat*2^8+x1.toNat)*2^8+x2.toNat)*2^8 by omega,Gh _ _ 8 (by omega)]
 rw[show BitVec.toNat (0:BitVec 32)=0 from rfl,show BitVec.toNat (256:BitVec 32)=256 from rfl];omega
theorem Ze (x:BitVec 32) (y:UInt8):((x.toNat:Int)*256%4294967296+(y.toNat:Int))%4294967296=((x*256+y.toBitVec.setWidth 32).toNat:Int):=by
 rw[BitVec.toNat_add,BitVec.toNat_mul,BitVec.toNat_setWidth,UInt8.toNat_toBitVec,show BitVec.toNat (256:BitVec 32)=256 from rfl];omega
theorem TW (x:BitVec 32) (y:UInt8):(x.toNat:Int)*256%4294967296+(y.toNat:Int)=((x*256+y.toBitVec.setWidth 32).toNat:Int):=by
 have h:=y.toNat_lt;rw[←Ze];omega
theorem TX (xs:List (BitVec 32)):(eK xs).toArray.all (·.oneCell')=true:=all_oneCell_toArray fun v hv=>by
 obtain⟨x,_,rfl⟩:=List.mem_map.1 hv;rfl
theorem adL (a b c d e f g h:Int):(#[.int .u32 a,.int .u32 b,.int .u32 c,.int .u32 d,.int .u32 e,.int .u32 f,.int .u32 g,.int .u32 h]:Array Value).all (·.oneCell')=true:=
 all_oneCell_toArray (cs:=[.int .u32 a,.int .u32 b,.int .u32 c,.int .u32 d,.int .u32 e,.int .u32 f,.int .u32 g,.int .u32 h]) fun v hv=>by
  simp at hv;rcases hv with rfl|rfl|rfl|rfl|rfl|rfl|rfl|rfl<;>rfl
theorem uh {w a c:World} {g B:Nat} (h:w.grownBy a (some g)) (k:Below B a c) (hB:w.heap.size≤B):w.grownBy c (some g):=
 ⟨k.os.trans h.os,k.tape.trans h.tape,k.output.trans h.output,agx h.size k.size,fun j hj dt=>(k.block j (by omega)).trans (h.block j hj dt)⟩
theorem TY (b:List UInt8):(Ms b).length%64=0:=by
 rw[Ms,agc,iR _ _ (af2 _)];omega
theorem TZ (b:List UInt8):(Ms b).length≤b.length+72:=by
 rw[Ms,agc,iR _ _ (af2 _)];omega
def qI (b:List UInt8) (t:Nat):List Value:=eK ((EY b).take t)++List.replicate (64-t) (.int .u32 0)
theorem oJ (b:List UInt8) (t:Nat) (h:t≤64):(qI b t).length=64:=by simp[qI,fO];omega
theorem T2 (b:List UInt8) (t:Nat) (h:t<64):(qI b t)[t]?=some (.int .u32 0):=by
 rw[qI,agv (by simp[fO];omega)];have hl:(eK ((EY b).take t)).length=t:=by simp[fO];omega
 rw[hl,Nat.sub_self,show 64-t=(64-(t+1))+1 by omega,List.replicate_succ];rfl
theorem PN (b:List UInt8) (t:Nat) (h:t<64):(qI b t).set t (.int .u32 ((wd b t).toNat:Int))=qI b (t+1):=by
 have hl:(eK ((EY b).take t)).length=t:=by simp[fO];omega
 rw[qI,List.set_append_right _ _ (by omega),hl,Nat.sub_self,show 64-t=(64-(t+1))+1 by omega,List.replicate_succ,List.set_cons_zero,qI];have hw:(EY b)[t]?=some (wd b t):=by simp[EY,h]
 rw[List.take_add_one,hw];simp[eK]
theorem Gj (b:List UInt8) (t j:Nat) (h:t≤64) (hj:j<t):(qI b t)[j]?=(eK (EY b))[j]?:=by
 rw[qI,agK (by simp[fO];omega)];simp[eK,List.getElem?_take,hj]
theorem T3 (st:List (BitVec 32)) (k:Nat) (h:k<4*st.length):(ia st)[k]?=some (UInt8.ofNat ((st[k/4]'(by omega)).toNat/2^(24-8*(k%4)))):=by
 obtain⟨g0,g1,g2,g3⟩:=vw st (k/4) (by omega);have:k%4=0∨k%4=1∨k%4=2∨k%4=3:=by omega
 rcases this with e|e|e|e
 · rw[e];rw[show 4*(k/4)=k by omega] at g0;exact g0
 · rw[e];rw[show 4*(k/4)+1=k by omega] at g1;exact g1
 · rw[e];rw[show 4*(k/4)+2=k by omega] at g2;exact g2
 rw[e];rw[show 4*(k/4)+3=k by omega] at g3;simpa using g3
theorem DS (A:Option Addr) (c:Nat) (b:List UInt8) (w:World) (hs:Sl w w.heap.size A (B8 b)) (hl:b.length≤2048) (sF:b.length≤c) (hc:c≤maxLen):
 Calls Tryz.prog 172 #[.slice A b.length c] w fun e W'=>e=.returned (.agg (B8 (nw b)).toArray)∧Below w.heap.size w W':=by
 obtain⟨kc,mG⟩:∃kc,kc=(eK nQ).toArray:=⟨_,rfl⟩;have Zf:kc.size=64:=by rw[mG];simp[fP]
 have Hk1:Hid (kc.all (·.oneCell')=true):=aa (by rw[mG];simp[eK];intro x _;rfl);have abK:Hid ((Tryz.prog.info? 242).map (·.size)=some kc.size):=aa (by rw[Zf];kernel_rfl);obtain⟨iu,hhc⟩:∃hc,hc=(eK nR).toArray:=⟨_,rfl⟩;have Zg:iu.size=8:=by rw[hhc];simp[tL]
 have J5:Hid (iu.all (·.oneCell')=true):=aa (by rw[hhc];simp[eK];intro x _;rfl);have abL:Hid ((Tryz.prog.info? 120).map (·.size)=some iu.size):=aa (by rw[Zg];kernel_rfl);have Ss:=aa mG;have adM:=aa Zf;have Hhc:=aa hhc;have adN:=aa Zg;have Hs:=aa hs;clear mG Zf hhc Zg hs;obtain⟨wa,pS⟩:∃wa,wa=w.alloc (.cells (Array.replicate 32 (.int .u8 0)) 56):=⟨_,rfl⟩;obtain⟨wb,Sy⟩:=ab (wa.alloc (.cells kc 242));obtain⟨wc,CJ⟩:=ab (wb.alloc (.cells iu 120));have Hwa:=aa pS;have RJ:=aa Sy;have Zh:=aa CJ;clear pS Sy CJ;go_enter Tryz.func172,Tryz.ntmps172;go_wp2_with (first|(refine wpList_build rfl 242 _ rfl (by kernel_rfl) ?_;rw[show (Tryz.prog.built 242 _).getD #[]=kc from by rw[Ss.out];kernel_rfl];refine(show wa=_ from Hwa.out)▸?_)|(refine wpList_build rfl 120 _ rfl (by kernel_rfl) ?_;rw[show (Tryz.prog.built 120 _).getD #[]=iu from by rw[Hhc.out];kernel_rfl])|(refine af6 rfl 242 (.tmp 3) (.tmp 20) rfl wa.heap.size kc rfl rfl 242 _ (af4 wa _) abK.out adM.out.symm Hk1.out ?_;rw[agi,←RJ.out])|(refine af6 rfl 120 (.tmp 4) (.tmp 21) rfl wb.heap.size iu rfl rfl 120 _ (af4 wb _) abL.out adN.out.symm J5.out ?_;rw[agi,←Zh.out])|fail)
 have CO:wa.heap.size=w.heap.size+1:=by rw[Hwa.out];exact agn _ _
 have hzb:wb.heap.size=w.heap.size+2:=by rw[RJ.out,agn,CO]
 have hzc:wc.heap.size=w.heap.size+3:=by rw[Zh.out,agn,hzb]
 have BO:Below w.heap.size w wa:=by rw[Hwa.out];exact(af5 _ w).alloc (af2 _) _
 have Sw:Below w.heap.size w wb:=by rw[RJ.out];exact BO.alloc (by omega) _
 have hBc:Below w.heap.size w wc:=by rw[Zh.out];exact Sw.alloc (by omega) _
 have hOc:wc.heap[w.heap.size]?=some (.cells (Array.replicate 32 (.int .u8 0)) 56 (0,0)):=by
  rw[Zh.out,Below.heap_alloc wb _ _ (by omega),RJ.out,Below.heap_alloc wa _ _ (by omega),Hwa.out];exact af4 w _
 have JH:wc.heap[wa.heap.size]?=some (.cells kc 242 (0,0)):=by
  rw[Zh.out,Below.heap_alloc wb _ _ (by omega),RJ.out];exact af4 wa _
 have hHc:wc.heap[wb.heap.size]?=some (.cells iu 120 (0,0)):=by rw[Zh.out];exact af4 wb _
 obtain⟨gk,jR⟩:=ab wa.heap.size;obtain⟨gh,qp⟩:=ab wb.heap.size;rw[←jR,←qp];rw[←jR] at JH;rw[←qp] at hHc;rw[←jR] at CO;rw[←qp] at hzb;have JX:=Hs.out.below hBc;clear jR qp BO Sw Hwa RJ Zh;refine(NL A c b wc (JX.mono (by omega)) hl sF hc).mono ?_;rintro e wf ⟨mv,rfl,hoM,BQ⟩;obtain⟨M,hM⟩:=ab (Ms b);rw[←hM] at hoM;obtain⟨Am,cm,rfl,Ev,Td⟩:=aH hoM;have hMm:M.length%64=0:=by rw[hM];exact TY b
 have SF:M.length≤2120:=by rw[hM];exact agx (TZ b) (by omega)
 have hMp:0<M.length:=by rw[hM];simp[Ms,fb];omega
 obtain⟨gm,PO,rfl,hgm,hmF,hmc⟩:∃gm PO,Am=some ⟨gm,0,none⟩∧wc.heap.size≤gm∧wf.heap[gm]?=some (.cells PO 5 (0,0))∧∀j (h:j<M.length),PO[j]?=some (.int .u8 ((M[j]'h).toNat:Int)):=by
  obtain⟨A',c',e,h1,h2,h3⟩:=hoM;injection e with e1 e2 e3;obtain⟨g,cur,e4,h4,h5,h6,h7⟩:=h3 (by omega);refine⟨g,cur,by rw[e1,e4],h4,h5,fun j hj=>?_⟩;have h8:(cur.toList.take (B8 M).length)[j]?=(B8 M)[j]?:=congrArg (fun l=>l[j]?) h7;rw[List.getElem?_take,if_pos (by simpa using hj),show (B8 M)[j]?=some (.int .u8 ((M[j]'hj).toNat:Int)) from by rw[age (by simpa using hj),dd]] at h8
  simpa using h8
 obtain⟨N,hN⟩:=ab M.length;rw[←hN];rw[←hN] at Ev hMm SF hMp;have hOf:=(BQ.block w.heap.size (by omega)).trans hOc;have hKf:=(BQ.block gk (by omega)).trans JH;have hHf:=(BQ.block gh (by omega)).trans hHc;have hBf:=hBc.trans (BQ.mono (by omega));have adO:gm<wf.heap.size:=(af3.1 hmF).1;have aaB:w.heap.size<gk:=by omega
 have afo:gk<gh:=by omega
 have afp:gh<wc.heap.size:=by omega
 clear CO hzb hzc;have HN:=aa hN;have HM:=aa hM;have Hmc:=aa hmc;have HmF:=aa hmF;have RM:=aa hOf;have Jf:=aa hKf;have HHf:=aa hHf;clear hN hM hmc hmF hOf hKf hHf hOc JH hHc hoM JX Hs;go_wp2_with fail;go_loopw [6] (fun i wr=>∃j a:Nat,Hid (a=64*j)∧a≤N∧i=.int .i64 a∧wf.grownBy wr (some gh)∧Hid (wr.heap[gh]?=some (.cells (eK (blk nR M j)).toArray 120 (0,0)))) (fun i _=>N-(intOf i).toNat)
 case atStart=>exact⟨0,0,aa rfl,agu _,rfl,World.grownBy.refl _ _,aa (by rw[HHf.out,Hhc.out];rfl)⟩
 case round=>
  obtain⟨j,a,Ha,haN,rfl,fL,HH⟩:=hrel;have bW:Tryz.prog.follows .mixedOrders=true:=by kernel_rfl
  by_cases aL:a<N
  · have adP:a+64≤N:=by have:=Ha.out;omega
    have hzr:=fL.size;obtain⟨bl,mE⟩:∃bl,bl=(M.drop (64*j)).take 64:=⟨_,rfl⟩
    have I3:∀q,q<64→∃y:UInt8,bl.getD q 0=y∧PO[a+q]?=some (.int .u8 (y.toNat:Int)):=fun q hq=>by
     refine⟨_,rfl,?_⟩;have h1:a+q<M.length:=by have:=HN.out;omega
     rw[Hmc.out (a+q) h1,mE,←Ha.out];simp[agB,List.getElem?_take,hq,h1]
    have zm:=aa mE;have Hbm:=aa I3;clear mE I3;obtain⟨wS,VC⟩:=ab wr;subst VC;go_wp2_with fail;obtain⟨gw,pq⟩:=ab wS.heap.size;obtain⟨w1,gu⟩:∃w1,w1=wS.alloc (.cells (Array.replicate 64 (.int .u32 0)) 242):=⟨_,rfl⟩;rw[←pq];refine(show w1=_ from gu)▸?_;have TP:w1.heap[gw]?=some (.cells (qI bl 0).toArray 242 (0,0)):=by rw[gu,pq];exact af4 wS _
    have fj:Below gw wS w1:=by rw[gu,pq];exact(af5 _ _).alloc (af2 _) _
    have hmg:wS.heap[gm]?=some (.cells PO 5 (0,0)):=(fL.block gm adO (fun e=>by injection e with e;omega)).trans HmF.out;have adQ:gm<gw:=by omega
    have V4:=aa TP;have Hmg:=aa hmg;have Hgw:=aa pq;clear TP hmg pq gu;go_loopw [8] (fun i wr=>∃t:Nat,t≤16∧i=.int .i64 t∧Below gw wS wr∧Hid (wr.heap[gw]?=some (.cells (qI bl t).toArray 242 (0,0)))) (fun i _=>16-(intOf i).toNat)
    case atStart=>exact⟨0,agu _,rfl,fj,V4⟩
    case round=>
     clear fj V4;obtain⟨t,ht,rfl,hB,HR⟩:=hrel
     by_cases adR:t<16
     · obtain⟨wT,hwT⟩:=ab wr
       subst hwT;go_wp2_with fail;rw[show decide ((t:Int)<16)=true from by simp;omega];go_loopw [9] (fun i wr=>∃q:Nat,q≤4∧i=.int .i64 q∧Below gw wS wr∧Hid (wr.heap[gw]?=some (.cells ((qI bl t).set t (.int .u32 ((zy bl t q).toNat:Int))).toArray 242 (0,0)))) (fun i _=>4-(intOf i).toNat)
       case atStart=>
        refine⟨0,agu _,rfl,hB,aa ?_⟩;rw[HR.out];have h0:=T2 bl t (by omega)
        rw[show (qI bl t).set t (.int .u32 ((zy bl t 0).toNat:Int))=qI bl t from by
         apply List.ext_getElem?;intro x;rw[List.getElem?_set];split
         · rename_i e;subst e;rw[if_pos (by rw[oJ bl t (by omega)];omega),h0];rfl
         rfl]
       case round=>
        obtain⟨q,hq,rfl,hBq,HRq⟩:=hrel
        by_cases hq4:q<4
        · obtain⟨x,hx⟩:=ab (zy bl t q)
          obtain⟨ma,hma⟩:∃ma,ma=a+(4*t+q):=⟨_,rfl⟩;have ema:(a:Int)+4*(t:Int)+(q:Int)=(ma:Int):=by omega
          have afq:ma<N:=by omega
          obtain⟨y,hy,T4⟩:=Hbm.out (4*t+q) (by omega)
          have cx:wr.cell? ⟨gw,t,none⟩=some (.int .u32 (x.toNat:Int)):=by
           rw[agb wr gw t _ _ (0,0) HRq.out,hx,agr,List.getElem?_set_self (by rw[oJ bl t (by omega)];omega)]
          have fx:=agF wr gw t _ _ HRq.out
          have cy:wr.cell? ⟨gm,ma,none⟩=some (.int .u8 (y.toNat:Int)):=by
           rw[agb wr gm ma _ _ (0,0) ((hBq.block gm adQ).trans Hmg.out),hma];exact T4
          have CW:=y.toNat_lt;have Hx:=aa hx;have Hy:=aa hy;clear hx hma hy T4;go_wp2_with fail;refine an [(0,0),(1,0),(2,0),(3,1),(4,0),(5,0),(6,0),(7,0),(8,0),(9,0),(10,0),(11,0),(12,0),(13,1),(14,0),(15,0),(16,0),(17,2)] 17 bW (by kernel_rfl) (by intro c a d v w h;cases d<;>exact h) ?_
          repeat ((first|refine ag rfl fun K hK=>?_|refine af rfl fun K hK=>?_);go_simp;(first|refine hK _ ?_|(simp only[IntWalk.iteOmega];go_simp;refine hK _ ?_)|(go_bits;go_simp;refine hK _ ?_));clear hK K;try go_bits)
          refine ae rfl rfl (fun K hK=>?_);go_wp2_with fail;refine⟨.inl (by decide),ak ?_⟩;go_wp2_with fail;have jZ:=(hBq.setCell (p:=⟨gw,t,none⟩) (af2 _) (.int .u32 ((x.toNat:Int)*256%4294967296+(y.toNat:Int)))).drew;refine⟨⟨q+1,by omega,rfl,jZ,aa ?_⟩,by simp[intOf];omega⟩;rw[heap_drew,heap_setCell_same _ gw t _ _ _ HRq.out,TW x y,Hx.out,←Hy.out,List.setIfInBounds_toArray,List.set_set];rfl
        obtain rfl:q=4:=by omega
        go_wp2_with fail;refine⟨⟨t+1,by omega,rfl,hBq,aa ?_⟩,by simp[intOf];omega⟩;rw[HRq.out,Gi,←U8 bl t adR,PN bl t (by omega)]
     obtain rfl:t=16:=by omega
     have Jg:Fill wr gw 242 64 (eK (EY bl)) 16:=⟨_,HR.out,by simp[oJ bl 16 (by omega)],fun j hj=>by rw[agr];exact Gj bl 16 j (by omega) hj⟩;clear HR;go_wp2_with fail
     try rw[show ((16:Nat):Int)=16 from rfl]
     go_loopw [10] (fun i wr=>∃k:Nat,16≤k∧k≤64∧i=.int .i64 k∧Fill wr gw 242 64 (eK (EY bl)) k∧Below gw wS wr) (fun i _=>64-(intOf i).toNat)
     case atStart=>exact⟨16,af2 _,by omega,rfl,Jg,hB⟩
     case round=>
      clear Jg hB;obtain⟨k,afr,hk,rfl,bK,mL⟩:=hrel
      by_cases aL:k<64
      · obtain⟨JP,Np⟩:∃a,a=k-16:=⟨_,rfl⟩
        obtain⟨JQ,Nq⟩:∃a,a=k-15:=⟨_,rfl⟩;obtain⟨a7,h7'⟩:∃a,a=k-7:=⟨_,rfl⟩;obtain⟨a2,Cn⟩:∃a,a=k-2:=⟨_,rfl⟩;have e16:(k:Int)-16=(JP:Int):=by omega
        have e15:(k:Int)-15=(JQ:Int):=by omega
        have e7:(k:Int)-7=(a7:Int):=by omega
        have e2:(k:Int)-2=(a2:Int):=by omega
        have l16:JP<64:=by omega
        have l15:JQ<64:=by omega
        have l7:a7<64:=by omega
        have l2:a2<64:=by omega
        have c16:=bK.known (j:=JP) (by omega) (fa bl JP (by omega));have c15:=bK.known (j:=JQ) (by omega) (fa bl JQ (by omega));have c7:=bK.known (j:=a7) (by omega) (fa bl a7 (by omega));have c2:=bK.known (j:=a2) (by omega) (fa bl a2 (by omega));have Hx:Hid (wd bl k=wd bl JP+wd bl a7+EW (wd bl JQ)+EX (wd bl a2)):=by subst Np Nq h7' Cn;exact U9 bl k (by omega)
        clear Np Nq h7' Cn;obtain⟨x16,Nr⟩:∃x,x=wd bl JP:=⟨_,rfl⟩;obtain⟨yL,Ns⟩:∃x,x=wd bl JQ:=⟨_,rfl⟩;obtain⟨x7,hx7⟩:∃x,x=wd bl a7:=⟨_,rfl⟩;obtain⟨x2,Cl⟩:∃x,x=wd bl a2:=⟨_,rfl⟩;rw[←Nr] at c16 Hx;rw[←Ns] at c15 Hx;rw[←hx7] at c7 Hx;rw[←Cl] at c2 Hx;clear Nr Ns hx7 Cl;obtain⟨v0,Vc⟩:=bK.cell aL;have lR:=bK.frozen k;obtain⟨r1,jQ⟩:∃x,x=yL.rotateRight 7:=⟨_,rfl⟩;obtain⟨r2,sM⟩:∃x,x=yL.rotateRight 18:=⟨_,rfl⟩;obtain⟨r3,j0⟩:∃x,x=x2.rotateRight 17:=⟨_,rfl⟩;obtain⟨r4,qm⟩:∃x,x=x2.rotateRight 19:=⟨_,rfl⟩;have q1:=jz yL 25 (by omega) (by omega);have q2:=jz yL 14 (by omega) (by omega);have q3:=jz x2 15 (by omega) (by omega);have q4:=jz x2 13 (by omega) (by omega);rw[show yL.rotateLeft 25=r1 from(eZ yL 7 (by omega) (by omega)).trans jQ.symm] at q1;rw[show yL.rotateLeft 14=r2 from(eZ yL 18 (by omega) (by omega)).trans sM.symm] at q2;rw[show x2.rotateLeft 15=r3 from(eZ x2 17 (by omega) (by omega)).trans j0.symm] at q3;rw[show x2.rotateLeft 13=r4 from(eZ x2 19 (by omega) (by omega)).trans qm.symm] at q4;have Hr:Hid (EW yL=r1 ^^^ r2 ^^^ (yL>>>3)∧EX x2=r3 ^^^ r4 ^^^ (x2>>>10)):=by subst jQ sM j0 qm;exact⟨rfl,rfl⟩
        clear jQ sM j0 qm;have Q1:=aa q1;have Q2:=aa q2;have Q3:=aa q3;have Q4:=aa q4;clear q1 q2 q3 q4;go_wp2_with fail;refine an [(0,0),(1,0),(2,0),(3,1),(5,0),(6,0),(7,0),(8,1),(11,0),(12,0),(13,0),(14,1),(15,0),(4,2),(9,2),(10,0),(16,0),(17,0)] 18 bW (by kernel_rfl) (by intro c a d v w h;cases d<;>exact h) ?_
        repeat ((first|refine ag rfl fun K hK=>?_|refine af rfl fun K hK=>?_);go_simp;(first|refine hK _ ?_|(simp only[IntWalk.iteOmega];go_simp;refine hK _ ?_)|(go_bits;go_simp;refine hK _ ?_));clear hK K;try go_bits)
        refine ae rfl rfl (fun K hK=>?_);go_wp2_with (go_at_call 200;refine(Q1.out _).mono ?_;rintro e w' ⟨rfl,rfl⟩);refine⟨(by first|exact .inr (Ext.refl _)|exact Ext.refl _),?_⟩
        repeat ((first|refine ag rfl fun K hK=>?_|refine af rfl fun K hK=>?_);go_simp;(first|refine hK _ ?_|(simp only[IntWalk.iteOmega];go_simp;refine hK _ ?_)|(go_bits;go_simp;refine hK _ ?_));clear hK K;try go_bits)
        refine ae rfl rfl (fun K hK=>?_);go_wp2_with (go_at_call 200;refine(Q2.out _).mono ?_;rintro e w' ⟨rfl,rfl⟩);refine⟨(by first|exact .inr (Ext.refl _)|exact Ext.refl _),?_⟩
        repeat ((first|refine ag rfl fun K hK=>?_|refine af rfl fun K hK=>?_);go_simp;(first|refine hK _ ?_|(simp only[IntWalk.iteOmega];go_simp;refine hK _ ?_)|(go_bits;go_simp;refine hK _ ?_));clear hK K;try go_bits)
        refine ak ?_;rw[Va yL r1 r2,←Hr.out.1];obtain⟨S0,Gk⟩:∃S,S=EW yL:=⟨_,rfl⟩;rw[←Gk];have Yw:=aa Gk;clear Gk;go_wp2_with fail;refine an [(0,0),(1,0),(2,0),(3,1),(5,0),(6,0),(7,0),(8,1),(11,0),(12,0),(13,0),(14,1),(15,0),(4,2),(9,2),(10,0),(16,0),(17,0)] 18 bW (by kernel_rfl) (by intro c a d v w h;cases d<;>exact h) ?_
        repeat ((first|refine ag rfl fun K hK=>?_|refine af rfl fun K hK=>?_);go_simp;(first|refine hK _ ?_|(simp only[IntWalk.iteOmega];go_simp;refine hK _ ?_)|(go_bits;go_simp;refine hK _ ?_));clear hK K;try go_bits)
        refine ae rfl rfl (fun K hK=>?_);go_wp2_with (go_at_call 200;refine(Q3.out _).mono ?_;rintro e w' ⟨rfl,rfl⟩);refine⟨(by first|exact .inr (Ext.refl _)|exact Ext.refl _),?_⟩
        repeat ((first|refine ag rfl fun K hK=>?_|refine af rfl fun K hK=>?_);go_simp;(first|refine hK _ ?_|(simp only[IntWalk.iteOmega];go_simp;refine hK _ ?_)|(go_bits;go_simp;refine hK _ ?_));clear hK K;try go_bits)
        refine ae rfl rfl (fun K hK=>?_);go_wp2_with (go_at_call 200;refine(Q4.out _).mono ?_;rintro e w' ⟨rfl,rfl⟩);refine⟨(by first|exact .inr (Ext.refl _)|exact Ext.refl _),?_⟩
        repeat ((first|refine ag rfl fun K hK=>?_|refine af rfl fun K hK=>?_);go_simp;(first|refine hK _ ?_|(simp only[IntWalk.iteOmega];go_simp;refine hK _ ?_)|(go_bits;go_simp;refine hK _ ?_));clear hK K;try go_bits)
        refine ak ?_;rw[Vb x2 r3 r4,←Hr.out.2];obtain⟨S1,zQ⟩:∃S,S=EX x2:=⟨_,rfl⟩;rw[←zQ];have PQ:=aa zQ;clear zQ;go_wp2_with fail;refine an [(0,0),(1,0),(2,0),(3,0),(4,0),(5,1),(6,0),(7,0),(8,0),(9,0),(10,0),(11,0),(12,1),(13,0),(14,0),(15,2)] 15 bW (by kernel_rfl) (by intro c a d v w h;cases d<;>exact h) ?_
        repeat ((first|refine ag rfl fun K hK=>?_|refine af rfl fun K hK=>?_);go_simp;(first|refine hK _ ?_|(simp only[IntWalk.iteOmega];go_simp;refine hK _ ?_)|(go_bits;go_simp;refine hK _ ?_));clear hK K;try go_bits)
        refine ae rfl rfl (fun K hK=>?_);go_wp2_with fail;refine⟨.inl (by decide),ak ?_⟩;go_wp2_with fail;rw[Io,BitVec.add_comm S1 x7,show x7+S1+S0+x16=x16+x7+S0+S1 from by ac_rfl,Yw.out,PQ.out,←Hx.out];refine⟨⟨k+1,by omega,by omega,rfl,bK.set aL (fa bl k aL) |>.drew,?_⟩,by simp[intOf];omega⟩;exact(mL.setCell (p:=⟨gw,k,none⟩) (af2 _) _).drew.drew.drew
      obtain rfl:k=64:=by omega
      have hW:=bK.done (by simp[fO]);have HW:=aa hW;clear hW bK;obtain⟨wU,hwU⟩:=ab wr;subst hwU;have hHU:wU.heap[gh]?=some (.cells (eK (blk nR M j)).toArray 120 (0,0)):=(mL.block gh (by rw[Hgw.out];omega)).trans HH.out
      obtain⟨s0,s1,s2,s3,s4,s5,s6,s7,nD⟩:∃s0 s1 s2 s3 s4 s5 s6 s7,blk nR M j=[s0,s1,s2,s3,s4,s5,s6,s7]:=by
       have hl:(blk nR M j).length=8:=by rw[cq];rfl
       match blk nR M j,hl with
       |[s0,s1,s2,s3,s4,s5,s6,s7],_=>exact⟨s0,s1,s2,s3,s4,s5,s6,s7,rfl⟩
      rw[nD] at hHU;obtain⟨hv,hhv⟩:∃hv,hv=(eK [s0,s1,s2,s3,s4,s5,s6,s7]).toArray:=⟨_,rfl⟩;have V5:Hid ((Tryz.prog.info? 120).map (·.size)=some hv.size):=aa (by rw[hhv];kernel_rfl);have adS:Hid (8=hv.size):=aa (by rw[hhv];rfl);have Hv1:Hid (hv.all (·.oneCell')=true):=aa (by rw[hhv];exact TX _);rw[←hhv] at hHU;have HHU:=aa hHU;have Hhv:=aa hhv;have Jh:=aa nD;have adT:gw<wU.heap.size:=(af3.1 HW.out).1;have afs:gh<gw:=by rw[Hgw.out];omega
      have adU:gk<gw:=by omega
      clear hHU hhv nD
      try rw[show ((64:Nat):Int)=64 from rfl]
      go_wp2_with (first|(refine aga rfl 120 (.tmp 4) rfl gh rfl 120 hv (0,0) (.array 8 55) HHU.out (by kernel_rfl) rfl V5.out ?_)|(refine af6 rfl 120 (.tmp 13) (.tmp 108) rfl wU.heap.size hv rfl rfl 120 _ (af4 wU _) V5.out adS.out Hv1.out ?_;rw[agi])|fail);obtain⟨gv,hgv⟩:=ab wU.heap.size;obtain⟨w2,iN⟩:=ab (wU.alloc (.cells hv 120));rw[←hgv,←iN];have oV:w2.heap[gv]?=some (.cells #[.int .u32 (s0.toNat:Int),.int .u32 (s1.toNat:Int),.int .u32 (s2.toNat:Int),.int .u32 (s3.toNat:Int),.int .u32 (s4.toNat:Int),.int .u32 (s5.toNat:Int),.int .u32 (s6.toNat:Int),.int .u32 (s7.toNat:Int)] 120 (0,0)):=by rw[iN,hgv,Hhv.out];exact af4 _ _
      have aZ:Below gv wU w2:=by rw[iN,hgv];exact(af5 _ _).alloc (af2 _) _
      have hwv:gw<gv:=by rw[hgv];exact adT
      have HKU:Hid (wU.heap[gk]?=some (.cells kc 242 (0,0))):=aa (by
       rw[mL.block gk adU,fL.block gk (by omega) (fun e=>by injection e with e;omega)];exact Jf.out)
      have abM:=aa oV;clear iN hgv oV
      go_loopw [14] (fun i wq=>∃(k:Nat) (a0 a1 a2 a3 a4 a5 a6 a7:BitVec 32),k≤64∧i=.int .i64 k∧Hid (Cy nQ bl [s0,s1,s2,s3,s4,s5,s6,s7] k=[a0,a1,a2,a3,a4,a5,a6,a7])∧
       Hid (wq.heap[gv]?=some (.cells #[.int .u32 (a0.toNat:Int),.int .u32 (a1.toNat:Int),.int .u32 (a2.toNat:Int),.int .u32 (a3.toNat:Int),.int .u32 (a4.toNat:Int),.int .u32 (a5.toNat:Int),.int .u32 (a6.toNat:Int),.int .u32 (a7.toNat:Int)] 120 (0,0)))∧Below gv wU wq) (fun i _=>64-(intOf i).toNat)
      case atStart=>exact⟨0,s0,s1,s2,s3,s4,s5,s6,s7,agu _,rfl,aa rfl,abM,aZ⟩
      case round=>
       clear abM aZ;obtain⟨k,a0,a1,a2,a3,a4,a5,a6,a7,hk,rfl,hR,HV,hB⟩:=hrel
       by_cases aL:k<64
       · obtain⟨xw,Xf⟩:∃x,x=wd bl k:=⟨_,rfl⟩
         obtain⟨xk,q8⟩:∃x,x=nQ.getD k 0:=⟨_,rfl⟩
         have ck:wr.cell? ⟨gk,k,none⟩=some (.int .u32 (xk.toNat:Int)):=by
          rw[agb wr gk k _ _ (0,0) ((hB.block gk (by omega)).trans HKU.out),q8,Ss.out];simp[eK,fP,aL]
         have cw:wr.cell? ⟨gw,k,none⟩=some (.int .u32 (xw.toNat:Int)):=by
          rw[agb wr gw k _ _ (0,0) ((hB.block gw hwv).trans HW.out),Xf,agr];exact fa bl k aL
         have Hxw:=aa Xf;have Vd:=aa q8;clear Xf q8;have c0:wr.cell? ⟨gv,0,none⟩=some (.int .u32 (a0.toNat:Int)):=by rw[agb _ gv 0 _ _ (0,0) HV.out];rfl
         have c1:wr.cell? ⟨gv,1,none⟩=some (.int .u32 (a1.toNat:Int)):=by rw[agb _ gv 1 _ _ (0,0) HV.out];rfl
         have c2:wr.cell? ⟨gv,2,none⟩=some (.int .u32 (a2.toNat:Int)):=by rw[agb _ gv 2 _ _ (0,0) HV.out];rfl
         have c3:wr.cell? ⟨gv,3,none⟩=some (.int .u32 (a3.toNat:Int)):=by rw[agb _ gv 3 _ _ (0,0) HV.out];rfl
         have c4:wr.cell? ⟨gv,4,none⟩=some (.int .u32 (a4.toNat:Int)):=by rw[agb _ gv 4 _ _ (0,0) HV.out];rfl
         have c5:wr.cell? ⟨gv,5,none⟩=some (.int .u32 (a5.toNat:Int)):=by rw[agb _ gv 5 _ _ (0,0) HV.out];rfl
         have c6:wr.cell? ⟨gv,6,none⟩=some (.int .u32 (a6.toNat:Int)):=by rw[agb _ gv 6 _ _ (0,0) HV.out];rfl
         have c7:wr.cell? ⟨gv,7,none⟩=some (.int .u32 (a7.toNat:Int)):=by rw[agb _ gv 7 _ _ (0,0) HV.out];rfl
         obtain⟨r1,jQ⟩:∃x,x=a4.rotateRight 6:=⟨_,rfl⟩;have Xg:=jz a4 26 (by omega) (by omega);rw[show a4.rotateLeft 26=r1 from(eZ a4 6 (by omega) (by omega)).trans jQ.symm] at Xg;have Qr1:=aa Xg;clear Xg;obtain⟨r2,sM⟩:∃x,x=a4.rotateRight 11:=⟨_,rfl⟩;have Xh:=jz a4 21 (by omega) (by omega);rw[show a4.rotateLeft 21=r2 from(eZ a4 11 (by omega) (by omega)).trans sM.symm] at Xh;have Qr2:=aa Xh;clear Xh;obtain⟨r3,j0⟩:∃x,x=a4.rotateRight 25:=⟨_,rfl⟩;have Xi:=jz a4 7 (by omega) (by omega);rw[show a4.rotateLeft 7=r3 from(eZ a4 25 (by omega) (by omega)).trans j0.symm] at Xi;have Qr3:=aa Xi;clear Xi;obtain⟨r4,qm⟩:∃x,x=a0.rotateRight 2:=⟨_,rfl⟩;have Xj:=jz a0 30 (by omega) (by omega);rw[show a0.rotateLeft 30=r4 from(eZ a0 2 (by omega) (by omega)).trans qm.symm] at Xj;have Qr4:=aa Xj;clear Xj;obtain⟨r5,Aa⟩:∃x,x=a0.rotateRight 13:=⟨_,rfl⟩;have Xk:=jz a0 19 (by omega) (by omega);rw[show a0.rotateLeft 19=r5 from(eZ a0 13 (by omega) (by omega)).trans Aa.symm] at Xk;have Qr5:=aa Xk;clear Xk;obtain⟨r6,Ez⟩:∃x,x=a0.rotateRight 22:=⟨_,rfl⟩;have Xl:=jz a0 10 (by omega) (by omega);rw[show a0.rotateLeft 10=r6 from(eZ a0 22 (by omega) (by omega)).trans Ez.symm] at Xl;have Qr6:=aa Xl;clear Xl;have Hr:Hid (JO a4=r1 ^^^ r2 ^^^ r3∧Nk a0=r4 ^^^ r5 ^^^ r6):=by subst jQ sM j0 qm Aa Ez;exact⟨rfl,rfl⟩
         clear jQ sM j0 qm Aa Ez;go_wp2_with fail;refine an [(0,0),(1,1),(2,0),(3,1),(5,0),(6,1),(9,0),(10,1),(14,0),(15,1),(16,0),(17,1),(18,0),(19,0),(20,1),(21,0),(22,0),(23,1),(24,0),(25,0),(27,0),(28,0),(29,1),(31,0),(32,0),(33,1),(4,2),(7,2),(8,0),(11,2),(12,0),(13,0),(26,0),(30,0),(34,0),(35,0)] 36 bW (by kernel_rfl) (by intro c a d v w h;cases d<;>exact h) ?_
         repeat ((first|refine ag rfl fun K hK=>?_|refine af rfl fun K hK=>?_);go_simp;(first|refine hK _ ?_|(simp only[IntWalk.iteOmega];go_simp;refine hK _ ?_)|(go_bits;go_simp;refine hK _ ?_));clear hK K;try go_bits)
         refine ae rfl rfl (fun K hK=>?_);go_wp2_with (go_at_call 200;refine(Qr1.out _).mono ?_;rintro e w' ⟨rfl,rfl⟩);refine⟨(by first|exact .inr (Ext.refl _)|exact Ext.refl _),?_⟩
         repeat ((first|refine ag rfl fun K hK=>?_|refine af rfl fun K hK=>?_);go_simp;(first|refine hK _ ?_|(simp only[IntWalk.iteOmega];go_simp;refine hK _ ?_)|(go_bits;go_simp;refine hK _ ?_));clear hK K;try go_bits)
         refine ae rfl rfl (fun K hK=>?_);go_wp2_with (go_at_call 200;refine(Qr2.out _).mono ?_;rintro e w' ⟨rfl,rfl⟩);refine⟨(by first|exact .inr (Ext.refl _)|exact Ext.refl _),?_⟩
         repeat ((first|refine ag rfl fun K hK=>?_|refine af rfl fun K hK=>?_);go_simp;(first|refine hK _ ?_|(simp only[IntWalk.iteOmega];go_simp;refine hK _ ?_)|(go_bits;go_simp;refine hK _ ?_));clear hK K;try go_bits)
         refine ae rfl rfl (fun K hK=>?_);go_wp2_with (go_at_call 200;refine(Qr3.out _).mono ?_;rintro e w' ⟨rfl,rfl⟩);refine⟨(by first|exact .inr (Ext.refl _)|exact Ext.refl _),?_⟩
         repeat ((first|refine ag rfl fun K hK=>?_|refine af rfl fun K hK=>?_);go_simp;(first|refine hK _ ?_|(simp only[IntWalk.iteOmega];go_simp;refine hK _ ?_)|(go_bits;go_simp;refine hK _ ?_));clear hK K;try go_bits)
         refine ak ?_;go_wp2_with fail;rw[aay a7 a4 a5 a6 xk xw r1 r2 r3,←Hr.out.1];obtain⟨T,hT⟩:∃T,T=a7+JO a4+ch a4 a5 a6+xk+xw:=⟨_,rfl⟩;rw[←hT];have HT:=aa hT;clear hT;refine an [(0,0),(1,1),(3,0),(4,1),(7,0),(8,1),(11,0),(12,1),(13,0),(14,1),(15,0),(16,0),(17,1),(18,0),(19,1),(20,0),(21,0),(22,0),(23,1),(24,0),(25,1),(26,0),(27,0),(2,2),(5,2),(6,0),(9,2),(10,0),(28,0),(29,0)] 30 bW (by kernel_rfl) (by intro c a d v w h;cases d<;>exact h) ?_
         repeat ((first|refine ag rfl fun K hK=>?_|refine af rfl fun K hK=>?_);go_simp;(first|refine hK _ ?_|(simp only[IntWalk.iteOmega];go_simp;refine hK _ ?_)|(go_bits;go_simp;refine hK _ ?_));clear hK K;try go_bits)
         refine ae rfl rfl (fun K hK=>?_);go_wp2_with (go_at_call 200;refine(Qr4.out _).mono ?_;rintro e w' ⟨rfl,rfl⟩);refine⟨(by first|exact .inr (Ext.refl _)|exact Ext.refl _),?_⟩
         repeat ((first|refine ag rfl fun K hK=>?_|refine af rfl fun K hK=>?_);go_simp;(first|refine hK _ ?_|(simp only[IntWalk.iteOmega];go_simp;refine hK _ ?_)|(go_bits;go_simp;refine hK _ ?_));clear hK K;try go_bits)
         refine ae rfl rfl (fun K hK=>?_);go_wp2_with (go_at_call 200;refine(Qr5.out _).mono ?_;rintro e w' ⟨rfl,rfl⟩);refine⟨(by first|exact .inr (Ext.refl _)|exact Ext.refl _),?_⟩
         repeat ((first|refine ag rfl fun K hK=>?_|refine af rfl fun K hK=>?_);go_simp;(first|refine hK _ ?_|(simp only[IntWalk.iteOmega];go_simp;refine hK _ ?_)|(go_bits;go_simp;refine hK _ ?_));clear hK K;try go_bits)
         refine ae rfl rfl (fun K hK=>?_);go_wp2_with (go_at_call 200;refine(Qr6.out _).mono ?_;rintro e w' ⟨rfl,rfl⟩);refine⟨(by first|exact .inr (Ext.refl _)|exact Ext.refl _),?_⟩
         repeat ((first|refine ag rfl fun K hK=>?_|refine af rfl fun K hK=>?_);go_simp;(first|refine hK _ ?_|(simp only[IntWalk.iteOmega];go_simp;refine hK _ ?_)|(go_bits;go_simp;refine hK _ ?_));clear hK K;try go_bits)
         refine ak ?_;rw[aaz a0 a1 a2 r4 r5 r6,←Hr.out.2];obtain⟨U,hU⟩:∃U,U=Nk a0+maj a0 a1 a2:=⟨_,rfl⟩;rw[←hU];have HU:=aa hU;clear hU;go_wp2_with (first|(refine wpList_build rfl 120 _ rfl (by kernel_rfl) ?_;rw[show (Tryz.prog.built 120 _).getD #[]=#[.int .u32 (((T.toNat:Int)+(U.toNat:Int))%4294967296),.int .u32 (a0.toNat:Int),.int .u32 (a1.toNat:Int),.int .u32 (a2.toNat:Int),.int .u32 (((a3.toNat:Int)+(T.toNat:Int))%4294967296),.int .u32 (a4.toNat:Int),.int .u32 (a5.toNat:Int),.int .u32 (a6.toNat:Int)] from by kernel_rfl])|(refine af6 rfl 120 (.tmp 13) (.tmp 196) rfl gv #[.int .u32 (((T.toNat:Int)+(U.toNat:Int))%4294967296),.int .u32 (a0.toNat:Int),.int .u32 (a1.toNat:Int),.int .u32 (a2.toNat:Int),.int .u32 (((a3.toNat:Int)+(T.toNat:Int))%4294967296),.int .u32 (a4.toNat:Int),.int .u32 (a5.toNat:Int),.int .u32 (a6.toNat:Int)] rfl rfl 120 _ HV.out (by kernel_rfl) rfl (adL _ _ _ _ _ _ _ _) ?_)|fail)
         refine⟨⟨k+1,T+U,a0,a1,a2,a3+T,a4,a5,a6,by omega,rfl,aa ?_,aa ?_,ah hB.drew.drew (af2 _) _⟩,by simp[intOf];omega⟩
         · show rnd _ _ (Cy nQ bl _ k)=_
           rw[hR.out,←Vd.out,←Hxw.out,HT.out,HU.out];rfl
         rw[agd wr.drew.drew gv _ _ _ _ HV.out,ql,ql]
       obtain rfl:k=64:=by omega
       obtain⟨ss,nD⟩:∃ss,ss=[s0,s1,s2,s3,s4,s5,s6,s7]:=⟨_,rfl⟩;obtain⟨vs,Sr⟩:∃vs,vs=[a0,a1,a2,a3,a4,a5,a6,a7]:=⟨_,rfl⟩;have j7:ss.length=8:=by rw[nD];rfl
       have yN:vs.length=8:=by rw[Sr];rfl
       have hG:wr.heap[gh]?=some (.cells (eK ss++[]).toArray 120 (0,0)):=by
        rw[nD,List.append_nil,←Hhv.out];exact(hB.block gh (by omega)).trans HHU.out
       have hv:wr.heap[gv]?=some (.cells (eK vs).toArray 120 (0,0)):=by rw[Sr];exact HV.out
       have iQ:Hid (rh nQ bl [s0,s1,s2,s3,s4,s5,s6,s7]=List.zipWith (·+·) ss vs):=aa (by rw[rh,hR.out,nD,Sr]);have abN:wf.grownBy wr (some gh):=uh (uh fL mL (by rw[Hgw.out];exact fL.size)) hB (by have h1:=fL.size;rw[←Hgw.out] at h1;omega);have HG:=aa hG;have HV4:=aa hv;clear nD Sr hR hG hv hB HV fL
       try rw[show ((64:Nat):Int)=64 from rfl]
       go_wp2_with fail;go_loopw [17] (fun i wq=>∃k:Nat,k≤8∧i=.int .i64 k∧Hid (wq.heap[gh]?=some (.cells (eK (mixed ss vs k)++[]).toArray 120 (0,0)))∧Hid (wq.heap[gv]?=some (.cells (eK vs).toArray 120 (0,0)))∧wf.grownBy wq (some gh)) (fun i _=>8-(intOf i).toNat)
       case atStart=>exact⟨0,agu _,rfl,by rw[vu];exact HG,HV4,abN⟩
       case round=>
        clear HG HV4 abN;obtain⟨k,hk,rfl,hG,hV,fL⟩:=hrel
        by_cases aL:k<8
        · obtain⟨x,hx⟩:=ab (ss.getD k 0)
          obtain⟨y,hy⟩:=ab (vs.getD k 0);have cx:wr.cell? ⟨gh,k,none⟩=some (.int .u32 (x.toNat:Int)):=by rw[agb wr gh k _ _ (0,0) hG.out,Cz ss vs j7 yN [] k aL,hx]
          have cy:wr.cell? ⟨gv,k,none⟩=some (.int .u32 (y.toNat:Int)):=by rw[agb wr gv k _ _ (0,0) hV.out,hy];simp[eK,yN,aL]
          have fx:=agF wr gh k _ _ hG.out;have Hx:=aa hx;have Hy:=aa hy;clear hx hy;go_wp2_with fail;refine an [(0,0),(1,0),(2,0),(3,1),(4,0),(5,0),(6,1),(7,0),(8,0),(9,2)] 9 bW (by kernel_rfl) (by intro c a d v w h;cases d<;>exact h) ?_
          repeat ((first|refine ag rfl fun K hK=>?_|refine af rfl fun K hK=>?_);go_simp;(first|refine hK _ ?_|(simp only[IntWalk.iteOmega];go_simp;refine hK _ ?_)|(go_bits;go_simp;refine hK _ ?_));clear hK K;try go_bits)
          refine ae rfl rfl (fun K hK=>?_);go_wp2;refine⟨.inl (by decide),ak ?_⟩;go_wp2;rw[ql];refine⟨⟨k+1,by omega,rfl,aa ?_,aa ?_,?_⟩,by simp[intOf];omega⟩
          · rw[heap_drew,heap_setCell_same _ gh k _ _ _ hG.out,Hx.out,Hy.out,yK ss vs j7 yN [] k aL]
          · rw[heap_drew,heap_setCell_other _ _ _ _ (by show gv≠gh;omega)];exact hV.out
          exact⟨fL.os,fL.tape,fL.output,by have:=fL.size;simpa using this,fun j hj dt=>by rw[heap_drew,heap_setCell_other _ _ _ _ (by show j≠gh;exact fun e=>dt (by rw[e]))];exact fL.block j hj dt⟩
        obtain rfl:k=8:=by omega
        go_wp2_with fail;refine⟨⟨j+1,a+64,aa (by rw[Ha.out];omega),adP,rfl,fL,aa ?_⟩,by simp[intOf];omega⟩;rw[hG.out,yJ ss vs j7 yN,List.append_nil,←iQ.out,blk,Jh.out,←zm.out]
  obtain⟨wE,fR⟩:=ab wr;subst fR;obtain⟨PU,T5⟩:∃st,st=blk nR M j:=⟨_,rfl⟩;have hl5:PU.length=8:=by rw[T5,cq];rfl
  have hj5:j=M.length/64:=by have:=Ha.out;have:=HN.out;omega
  have adV:Hid (ia PU=nw b):=aa (by rw[T5,hj5,HM.out];rfl);have hHE:wE.heap[gh]?=some (.cells (eK PU).toArray 120 (0,0)):=by rw[T5];exact HH.out
  have HHE:=aa hHE;have Ao:wE.heap[w.heap.size]?=some (.cells (Array.replicate 32 (.int .u8 0)) 56 (0,0)):=(fL.block w.heap.size (by omega) (fun e=>by injection e with e;omega)).trans RM.out;have Hgo:=aa Ao;have hzE:=fL.size;have Yt:=hBf.grown fL (by have:=hBf.size;omega) (fun r hr=>by injection hr with hr;omega);clear T5 hj5 hHE Ao;go_wp2_with fail;obtain⟨gz,Fh⟩:=ab wE.heap.size;obtain⟨w5,nk⟩:∃w5,w5=wE.alloc (.cells (Array.replicate 32 (.int .u8 0)) 56):=⟨_,rfl⟩;rw[←Fh];refine(show w5=_ from nk)▸?_;have hF5:Fill w5 gz 56 32 (B8 (ia PU)) 0:=by rw[nk,Fh];exact Fill.new' wE _ 32 (.int .u8 0) _
  have Rq:Below gz wE w5:=by rw[nk,Fh];exact(af5 _ _).alloc (af2 _) _
  have adW:gh<gz:=by omega
  have adX:w.heap.size<gz:=by omega
  clear nk Fh;go_loopw [19] (fun i wr=>∃k:Nat,k≤32∧i=.int .i64 k∧Fill wr gz 56 32 (B8 (ia PU)) k∧Below gz wE wr) (fun i _=>32-(intOf i).toNat)
  case atStart=>exact⟨0,agu _,rfl,hF5,Rq⟩
  case round=>as_aux_lemma=>
   clear hF5 Rq;obtain⟨k,hk,rfl,bK,eh⟩:=hrel
   by_cases Te:k<32
   · obtain⟨m4,hm4⟩:∃m,m=k/4:=⟨_,rfl⟩
     have em4:(k:Int)/4=(m4:Int):=by omega
     have adY:m4<8:=by omega
     obtain⟨sh,AS⟩:∃sh,sh=24-8*(k%4):=⟨_,rfl⟩;have esh:(24:Int)-8*((k:Int)%4)=(sh:Int):=by omega
     obtain⟨x,hx⟩:∃x,x=PU[m4]:=⟨_,rfl⟩
     have cx:wr.cell? ⟨gh,m4,none⟩=some (.int .u32 (x.toNat:Int)):=by
      rw[agb wr gh m4 _ _ (0,0) ((eh.block gh adW).trans HHE.out),hx];simp[eK,hl5,adY]
     obtain⟨v0,Vc⟩:=bK.cell Te;have lR:=bK.frozen k;have hbe:=T3 PU k (by omega);have Hbe:Hid ((ia PU)[k]?=some (UInt8.ofNat (x.toNat/2^sh))):=aa (by rw[hbe,hx,AS];simp[hm4]);have aeN:sh≤24:=by omega
     clear hbe hx hm4 AS;go_wp2_with fail
     have hv:(B8 (ia PU))[k]?=some (Value.int IntKind.u8 ((x.toNat:Int)/2^sh%256)):=by
      rw[B8,List.getElem?_map,Hbe.out];show some (Value.int IntKind.u8 ((UInt8.ofNat (x.toNat/2^sh)).toNat:Int))=_;rw[agp,Int.natCast_emod,Int.natCast_ediv,Int.natCast_pow];rfl
     exact⟨⟨k+1,by omega,rfl,bK.set Te hv,eh.setCell (p:=⟨gz,k,none⟩) (af2 _) _⟩,by simp[intOf];omega⟩
   obtain rfl:k=32:=by omega
   obtain⟨oc,fD⟩:∃oc,oc=(B8 (ia PU)).toArray:=⟨_,rfl⟩;have EB:(ia PU).length=32:=by rw[jF,hl5]
   have dO:oc.size=32:=by rw[fD];simp[EB]
   have cG:Hid ((Tryz.prog.info? 56).map (·.size)=some oc.size):=aa (by rw[dO];kernel_rfl);have iy:Hid ((Array.replicate 32 (Value.int .u8 0)).size=oc.size):=aa (by rw[dO];simp);have fQ:Hid (oc.all (·.oneCell')=true):=aa (by rw[fD];exact all_oneCell_toArray (aG _));have iD:=bK.done (by simp[EB]);rw[←fD] at iD;have CN:=aa iD;have tM:=aa ((eh.block w.heap.size adX).trans Hgo.out);have pA:=aa fD;clear iD fD dO bK;go_wp2_with (first|(refine aga rfl 56 (.tmp 18) rfl gz rfl 56 oc (0,0) (.array 32 5) CN.out (by kernel_rfl) rfl cG.out ?_)|(refine af6 rfl 56 (.tmp 2) (.tmp 227) rfl w.heap.size oc rfl rfl 56 _ tM.out cG.out iy.out fQ.out ?_)|fail);refine agf (v:=.agg oc) ?_ rfl ⟨by rw[pA.out,adV.out],ah (Yt.trans (eh.mono (by omega))) (af2 _) _⟩;exact ags rfl _ _ w.heap.size 56 oc (0,0) (.array 32 5) rfl (agd _ _ _ _ _ _ tM.out) (by kernel_rfl) rfl cG.out
end Go.Proofs.YtcjioogololnoaaGreatDoor
