/- Of any text: the program's descriptors and the reference's are read and written alike (DescParses). No condition. -/
import Derived.Test.YtcjioogololnoaaGreatDoorU1
import Derived.Test.YtcjioogololnoaaGreatDoorU27
import Derived.Test.YtcjioogololnoaaGreatDoorU31
import Derived.Test.YtcjioogololnoaaGreatDoorU28
import Derived.Test.YtcjioogololnoaaGreatDoorU23
set_option maxRecDepth 1000000
set_option maxHeartbeats 16000000
set_option linter.unusedVariables false
set_option linter.unusedSimpArgs false
namespace Go.Proofs.YtcjioogololnoaaGreatDoor
open Go Go.RowKit Go.Shelf
theorem Md (k:HKey) (hk:k.Ok) (w:World):
 Calls Tryz.prog 121 #[.agg (ba k).toArray] w fun e W'=>e=.returned (.bool k.good)∧Below w.heap.size w W':=by
 obtain⟨cs,bB⟩:∃cs,cs=(ba k).toArray:=⟨_,rfl⟩;have aD:=fun (W:World) (g:Nat) (h:W.heap[g]?=some (.cells (ba k).toArray 69 (0,0)))=>ib hk h
 have X7:=aa (fun ww=>D8 k hk ww);rw[←bB] at aD X7⊢;obtain⟨tl,yb⟩:=ab (k.data.drop 1);have Oo:tl.length=32:=by rw[yb,agD,hk.data]
 obtain⟨p,hp⟩:=ab k.priv;have HG0:Hid (k.good=if p then pU tl else iE k.data):=aa (by rw[yb,hp];rfl);simp only[←yb] at X7
 have Kp:∃h:0<k.data.length,decide (k.data[0]=0)=p:=⟨by rw[hk.data];decide,by
  rw[hp,HKey.priv,agB,age (by rw[hk.data];decide)];rfl⟩
 have dX:cs.size=71:=by rw[bB];simp[aI hk]
 have fJ:=aa (show (Tryz.prog.info? 69).map (·.size)=some cs.size by rw[dX];kernel_rfl);have aF:=af4 w (.cells cs 69);obtain⟨W0,aM⟩:=ab (w.alloc (.cells cs 69));rw[←aM] at aF;have bL:Below w.heap.size w W0:=by rw[aM];exact(af5 _ w).alloc (af2 _) _
 obtain⟨B,hB⟩:=ab w.heap.size;rw[←hB] at aF;have db:=aD W0 B aF;obtain⟨h0,hd⟩:=Kp;obtain⟨q,hq⟩:∃q,q=k.data[0]:=⟨_,rfl⟩;have c0:=db 0 h0;rw[←hq] at c0 hd;simp only[Nat.add_zero] at c0;have Fw:=aa (aJ aF)
 have Hsd:Hid (∀W,Below W0.heap.size W0 W→Sl W W.heap.size (some ⟨B,38,none⟩) (B8 k.data)):=aa fun W hW _=>⟨B,38,rfl,agq Fw.out hW.size,fun j hj=>by
  rw[(hW.cell (p:=⟨B,38+j,none⟩) Fw.out).trans (db j (by simpa using hj)),dd]⟩
 have gJ:=aa aM;have HB:=aa hB;have eC:=aa aF;have dh:=aa bL;have Hz:Hid (w.heap.size+1=W0.heap.size):=aa (by rw[aM];simp);have ZY:=aa (fun (W:World) (h:Sl W W.heap.size (some ⟨B,38,none⟩) (B8 k.data))=>uz (some ⟨B,38,none⟩) 33 k.data (by rw[hk.data];exact af2 _) W h);rw[hk.data] at ZY;have Hdn:Hid (k.data.length=33):=aa hk.data;have RO:Hid (dY tl<2^256):=aa (agq (lE tl) (by rw[Oo];decide));have Rm:=aa Oo;have hq8:=q.toNat_lt
 have hpp:((q.toNat:Int)==0)=p:=by
  rw[←hd]
  by_cases hz:q=0
  · subst hz;rfl
  rw[af8 hz,beq_eq_false_iff_ne];intro e;exact hz (UInt8.toNat_inj.1 (by show q.toNat=0;omega))
 rw[gJ.out,HB.out] at c0;clear bB aD yb hp dX aM hB aF bL db hd hq Oo h0;go_enter Tryz.func121,Tryz.ntmps121
 cases p with
 |true=>
  go_wp2_with (first|(refine aga rfl 69 (.tmp 1) rfl w.heap.size rfl 69 cs (0,0) _ (af4 w _) Tryz.underlying69 rfl fJ.out ?_));refine(show W0=_ from gJ.out)▸?_;rw[←HB.out];refine(X7.out _).mono ?_;rintro e w2 ⟨rfl,bt⟩;have sK:=dh.out.trans (bt.mono dh.out.size);obtain⟨W3,iF⟩:=ab (w2.alloc (.cells (B8 tl).toArray 56));have fl:W3.heap[w2.heap.size]?=some (.cells (B8 tl).toArray 56 (0,0)):=by rw[iF];exact af4 w2 _
  have ei:Hid (Below w.heap.size w W3):=aa (by rw[iF];exact sK.alloc sK.size _)
  have hs3:Sl W3 W3.heap.size (some ⟨w2.heap.size,0,none⟩) (B8 tl):=fun _=>⟨w2.heap.size,0,rfl,aJ fl,fun j hj=>by
   rw[Nat.zero_add,Qk fl (by simpa using hj),dd]⟩
  have RM:=aa (P9 (some ⟨w2.heap.size,0,none⟩) 32 tl Rm.out W3 hs3);have pd:=aa iF;have X6:=aa (Jq Rm.out);clear bt sK iF fl hs3;go_wp2_with (refine af6 rfl 56 (.tmp 3) (.tmp 11) rfl w2.heap.size (B8 tl).toArray rfl rfl 56 _ (af4 w2 _) X6.out (by simp[Rm.out]) (Ql _) ?_;rw[agi];refine(show W3=_ from pd.out)▸?_);refine RM.out.mono ?_;rintro e w4 ⟨rfl,dn⟩;have sz:=aa (ei.out.trans (dn.mono ei.out.size));clear dn;go_wp2_with fail;refine(P8 (dY tl) RO.out _).mono ?_;rintro e w5 ⟨rfl,eh⟩;have Ed:=aa (sz.out.trans (eh.mono sz.out.size));clear eh;go_wp2_with fail;go_ret;have nq:pU tl=(!decide (dY tl=0)&&decide (dY tl<fE)):=by simp[pU]
  exact⟨by rw[HG0.out];simp only[if_true,nq];rfl,Ed.out⟩
 |false=>
  go_wp2_with (first|(refine aga rfl 69 (.tmp 1) rfl w.heap.size rfl 69 cs (0,0) _ (af4 w _) Tryz.underlying69 rfl fJ.out ?_));refine(show W0=_ from gJ.out)▸?_;rw[←HB.out];refine(ZY.out W0 (Hsd.out W0 (af5 _ _))).mono ?_;rintro e w2 ⟨pt,rfl,iO,yf,bt⟩;have mH:=aa (dh.out.trans (bt.mono dh.out.size));have RV:=aa (show (Tryz.prog.info? 123).map (·.size)=some pt.size by rw[iO];kernel_rfl);have Mw:=aa yf;have rl:=aa iO;clear bt iO yf;go_wp2_with (refine af6 rfl 123 (.tmp 4) (.tmp 19) rfl w2.heap.size pt rfl rfl 123 _ (af4 w2 _) RV.out (by rw[rl.out];rfl) Mw.out ?_);go_ret;exact⟨by rw[HG0.out];rfl,by rw[agi];exact mH.out.alloc mH.out.size _⟩
theorem MS:(Tryz.prog.info? 69).map (·.size)=some kz.size:=by kernel_rfl
theorem Eo (s:ByteArray) (hsz:s.size≤4096) (w:World):
 Calls Tryz.prog 75 #[.string s] w fun e W'=>e=.returned (.tuple #[.agg (ba (cM s.data.toList).2).toArray,.int .i64 ((cM s.data.toList).1:Int)])∧Below w.heap.size w W':=by
 have bW:Tryz.prog.follows .mixedOrders=true:=by kernel_rfl
 obtain⟨S,hS⟩:=ab s.data.toList;have nD:s=⟨S.toArray⟩:=by rw[hS]
 obtain⟨R,hR⟩:=ab (cM S);obtain⟨E,hE⟩:∃E,E=(ff S).1:=⟨_,rfl⟩;obtain⟨D,hD⟩:∃D,D=(ff S).2:=⟨_,rfl⟩;have HR:Hid (R=if E=0 then ku D else (E,aP)):=aa (by rw[hR,hE,hD];rfl);have HfC:Hid (E=0→ff S=(0,D)):=aa (fun h=>by rw[hD];rw[hE] at h;exact Prod.ext h rfl);have Yg:=fun ww=>Bt s ww (by omega)
 rw[←hS,←hE,←hD] at Yg;have Yh:=aa Yg;rw[←hS,←hR];obtain⟨n,hn⟩:=ab D.length;rw[←hn] at Yh;have Hn:=aa hn;have Jh:=aa nD;have aF:=af4 w (.cells kz 69);obtain⟨W0,aM⟩:=ab (w.alloc (.cells kz 69));rw[←aM] at aF;have bL:Below w.heap.size w W0:=by rw[aM];exact(af5 _ w).alloc (af2 _) _
 obtain⟨B,hB⟩:=ab w.heap.size;rw[←hB] at aF;unfold kz at aM;have gJ:=aa aM;have HB:=aa hB;have eC:=aa aF;have dh:=aa bL;clear hS nD hR hE hD Yg hn aF aM bL hB hsz;go_enter Tryz.func75,Tryz.ntmps75;go_wp2_with fail;refine(show W0=_ from gJ.out)▸?_;rw[←HB.out];refine(Yh.out _).mono ?_;rintro e w1 ⟨A,c,rfl,hs,aZ⟩;have ja:=aa ((aZ.block B (aJ eC.out)).trans eC.out);have jN:=aa (dh.out.trans (aZ.mono dh.out.size));have hBw:w.heap.size≤B:=by rw[HB.out];exact af2 _
 have pM:=aa hBw;have Hs:=aa hs;clear Yh hs aZ hBw
 by_cases me:E=0
 · subst me
   by_cases h78:n=78
   · subst h78
     have kQ:D.length=78:=Hn.out.symm;obtain⟨b0,o0,rfl,Yi,aD⟩:=Hs.out.at_ (k:=0) (by omega);have rM:=rL D kQ;obtain⟨k,hk⟩:=ab (fU D);have sZ:Hid (R=if decide (dY (D.take 4)=eb k.priv)&&k.good&&qy k then (0,k) else (3,aP)):=aa (by rw[HR.out,if_pos rfl,ku,if_pos kQ,hk]);have Htx:Hid (eO k=S↔dY (D.take 4)=eb k.priv):=aa (by rw[hk];exact LX (HfC.out rfl) kQ);obtain⟨dp,Cs⟩:=ab (D.getD 4 0);obtain⟨F,hF⟩:∃F,F=(D.drop 5).take 4:=⟨_,rfl⟩;obtain⟨C,hC⟩:∃C,C=(D.drop 9).take 4:=⟨_,rfl⟩;obtain⟨cn,om⟩:∃cn,cn=(D.drop 13).take 32:=⟨_,rfl⟩;obtain⟨da,uF⟩:=ab (D.drop 45);have Hke:Hid (k=⟨dp,F,dY C,cn,da⟩):=aa (by rw[hk,QF,Cs,hF,hC,om,uF]);have hFl:F.length=4:=by rw[hF];simp[kQ]
     have VH:C.length=4:=by rw[hC];simp[kQ]
     have db:cn.length=32:=by rw[om];simp[kQ]
     have uQ:da.length=33:=by rw[uF];simp[kQ]
     have HFi:Hid (∀i (h:i<F.length) (h2:5+i<D.length),F[i]=D[5+i]):=aa (fun i h h2=>by subst hF;simp);have HCi:Hid (∀i (h:i<C.length) (h2:9+i<D.length),C[i]=D[9+i]):=aa (fun i h h2=>by subst hC;simp);have Hci:Hid (∀i (h:i<cn.length) (h2:13+i<D.length),cn[i]=D[13+i]):=aa (fun i h h2=>by subst om;simp);have Hdi:Hid (∀i (h:i<da.length) (h2:45+i<D.length),da[i]=D[45+i]):=aa (fun i h h2=>by subst uF;simp)
     have c4:w1.cell? ⟨b0,o0+4,none⟩=some (.int .u8 (dp.toNat:Int)):=by
      rw[aD 4 (by omega),Cs];simp[kQ]
     have hBu:=HQ dp;obtain⟨Z4,hZ4⟩:∃Z,Z=List.replicate 4 (0:UInt8):=⟨_,rfl⟩;obtain⟨Z32,UB⟩:∃Z,Z=List.replicate 32 (0:UInt8):=⟨_,rfl⟩;obtain⟨Wt,UC⟩:∃Z,Z=List.replicate 33 (0:UInt8):=⟨_,rfl⟩;rw[←hZ4,←UB,←UC] at hBu;have l4:Z4.length=4:=by rw[hZ4];simp
     have l32:Z32.length=32:=by rw[UB];simp
     have l33:Wt.length=33:=by rw[UC];simp
     have Yk:=aa hBu;have HZ4:=aa hZ4;have aei:=aa UB;have aej:=aa UC;have L32:=aa l32;have L33:=aa l33;clear hBu;obtain⟨L0,hL0⟩:∃L0,L0=ba ⟨dp,Z4,0,Z32,Wt⟩:=⟨_,rfl⟩;rw[←hL0] at Yk;have QM:L0.length=71:=by rw[hL0];exact sr _ _ _ _ _ l4 l32 l33
     have HI0:Hid ((Tryz.prog.info? 69).map (·.size)=some L0.toArray.size):=aa (by rw[List.size_toArray,QM];kernel_rfl);have HZ0:Hid (kz.size=L0.toArray.size):=aa ((show kz.size=71 from rfl).trans (by rw[List.size_toArray,QM]));have H10:Hid (L0.toArray.all (·.oneCell')=true):=aa (by rw[hL0];exact jK _);obtain⟨W3,iF⟩:=ab (w1.alloc (.cells L0.toArray 69));obtain⟨gK,Ry⟩:=ab w1.heap.size;have gK3:W3.heap[gK]?=some (.cells L0.toArray 69 (0,0)):=by rw[iF,Ry];exact af4 w1 _
     have jm:Below w1.heap.size w1 W3:=by rw[iF];exact(af5 _ _).alloc (af2 _) _
     have SY:Hid (∀W,W3.grownBy W (some gK)→∀q (h:q<D.length),W.cell? ⟨b0,o0+q,none⟩=some (.int .u8 (D[q].toNat:Int))):=aa (fun W hg q h=>by
      rw[World.cell?_of_block (a:=⟨b0,o0+q,none⟩) (hg.block b0 (agq Yi jm.size) (by simp only[Option.some.injEq,ne_eq];omega)),jm.cell (p:=⟨b0,o0+q,none⟩) Yi];exact aD q h)
     have ei:=aa (jN.out.trans (jm.mono jN.out.size));have fo:=aa ((jm.block B (aJ ja.out)).trans ja.out);have Wp:Hid (B<gK):=aa (by rw[Ry];exact aJ ja.out);have HwK:Hid (w.heap.size≤gK):=aa (by rw[Ry];exact jN.out.size);have Ym:=aa gK3;have pd:=aa iF;have HgK:=aa Ry;have HL0:=aa hL0;rw[←hk] at rM;have Vz:=aa rM;have yR:=aa kQ;have QN:=aa hFl;have HCl:=aa VH;have j9:=aa db;have MB:=aa uQ;clear hZ4 UB UC l4 l32 l33 kQ aD rM hk Cs hF hC om uF hFl VH db uQ hL0 QM iF Ry gK3 jm HfC HR;go_wp2_with (first|((with_reducible refine bQ ?_ 69 #[(0,.tmp 25)] ?_ L0.toArray ?_ ?_);rfl;rfl;exact Yk.out)|((with_reducible refine af6 ?s1 69 (.tmp 6) (.tmp 26) ?s2 w1.heap.size L0.toArray ?s3 ?s4 69 _ (af4 w1 _) HI0.out ?s5 H10.out ?_);(case s1=>rfl);(case s2=>rfl);(case s3=>rfl);(case s4=>rfl);(case s5=>exact HZ0.out);rw[agi];refine(show W3=_ from pd.out)▸?_;rw[←HgK.out]))
     go_loopw [7] (fun iv wr=>∃i:Nat,i≤4∧iv=.int .i64 i∧wr.heap[gK]?=some (.cells (ba ⟨dp,sC F 4 i,dY (C.take i),Z32,Wt⟩).toArray 69 (0,0))∧W3.grownBy wr (some gK)) (fun iv _=>4-(intOf iv).toNat)
     case atStart=>exact⟨0,by omega,rfl,by rw[si,List.take_zero,show dY []=0 from rfl,←HZ4.out,←HL0.out];exact Ym.out,cV _ _⟩
     case round=>
      obtain⟨i,hi,rfl,gC,hg⟩:=hrel
      by_cases aL:i<4
      · have hjt:decide ((i:Int)<4)=true:=af9 (by omega)
        have hiF:i<F.length:=by rw[QN.out];exact aL
        have Uh:i<C.length:=by rw[HCl.out];exact aL
        obtain⟨q5,hq5⟩:∃q,q=5+i:=⟨_,rfl⟩;obtain⟨q9,hq9⟩:∃q,q=9+i:=⟨_,rfl⟩;have ZZ:q5<D.length:=by rw[yR.out];omega
        have Z0:q9<D.length:=by rw[yR.out];omega
        have hI5:(5:Int)+(i:Int)=(q5:Int):=by omega
        have hI9:(9:Int)+(i:Int)=(q9:Int):=by omega
        obtain⟨y5,hy5⟩:∃y,y=F[i]:=⟨_,rfl⟩;obtain⟨y9,hy9⟩:∃y,y=C[i]:=⟨_,rfl⟩;have e5:D[q5]=y5:=by subst hq5;rw[hy5,HFi.out i hiF ZZ]
        have e9:D[q9]=y9:=by subst hq9;rw[hy9,HCi.out i Uh Z0]
        have d5:=SY.out wr hg q5 ZZ;rw[e5] at d5;have QO:(sC F 4 i).length=4:=kG F 4 i hi (by rw[QN.out];exact af2 _);have xT:=sr dp (sC F 4 i) (dY (C.take i)) Z32 Wt QO L32.out L33.out;have c1:=QD gC (k:=1+i) (by rw[xT];omega);generalize (ba ⟨dp,sC F 4 i,dY (C.take i),Z32,Wt⟩)[1+i]'(by rw[xT];omega)=acb at c1
        have z1:=bV gC (1+i);have g4:=Uw (k:=1+i) (v:=.int .u8 (y5.toNat:Int)) gC;rw[LY _ _ _ _ _ _ _ (by rw[QO];exact aL),hy5,vf F 4 i aL hiF,←hy5] at g4;obtain⟨W4,sP⟩:∃W4,W4=wr.setCell ⟨gK,1+i,none⟩ (.int .u8 (y5.toNat:Int)):=⟨_,rfl⟩;have xY:W3.grownBy W4 (some gK):=by rw[sP];exact be hg _ _
        rw[←sP] at g4;have hF4:(sC F 4 (i+1)).length=4:=kG F 4 (i+1) aL (by rw[QN.out];exact af2 _);have d9:=SY.out W4 xY q9 Z0;rw[e9] at d9;obtain⟨ch,we⟩:=ab (dY (C.take i));have aeQ:ch<16777216:=by rw[we];exact Mb C i aL
        obtain⟨ch2,acd⟩:∃ch2,ch2=ch*256+y9.toNat:=⟨_,rfl⟩;have afN:=y9.toNat_lt;have afO:=y5.toNat_lt;have afP:(ch:Int)*256+(y9.toNat:Int)=(ch2:Int):=by omega
        have RU:Hid (dY (C.take (i+1))=ch2):=aa (by rw[QE C i Uh,acd,we,hy9]);rw[←we] at g4
        have c5:W4.cell? ⟨gK,5,none⟩=some (.int .u32 (ch:Int)):=by
         rw[agb _ _ _ _ _ (0,0) g4,agr,xR _ _ _ _ _ hF4]
        have z5:=bV g4 5;have g5:=Uw (k:=5) (v:=.int .u32 (ch2:Int)) g4;rw[LZ _ _ _ _ _ _ hF4] at g5;have OV:=aa sP;have G5:=aa g5;have Hg4:=aa xY;have aek:ch2<4294967296:=by omega
        clear ZZ Z0 e5 e9 hy5 hy9 QO xT hF4 we acd sP g4 g5 xY gC hg hiF Uh hq5 hq9;go_wp2_with fail;refine(show W4=_ from OV.out)▸?_;refine an [(0,0),(1,1),(2,0),(3,0),(4,0),(5,0),(6,0),(7,1),(8,0),(9,0),(10,0),(11,2)] 11 bW (by kernel_rfl) (by intro c a d v w h;cases d<;>exact h) ?_
        repeat ((first|refine ag rfl fun K hK=>?_|refine af rfl fun K hK=>?_);go_simp;(first|refine hK _ ?_|(simp only[IntWalk.iteOmega];go_simp;refine hK _ ?_)|(go_bits;go_simp;refine hK _ ?_));clear hK K;try go_bits)
        refine ae rfl rfl (fun K hK=>?_);go_wp2_with fail;refine⟨.inl (by decide),?_⟩;refine ak ?_;go_wp2_with fail;go_simp;exact⟨⟨i+1,by omega,by omega,by rw[heap_drew,RU.out];exact G5.out,eQ (be Hg4.out _ _)⟩,by simp only[intOf];omega⟩
      obtain rfl:i=4:=by omega
      have MT:=gC;rw[sg F 4 QN.out.symm,af7 (by rw[HCl.out];exact af2 _)] at MT;obtain⟨N,hN⟩:=ab (dY C);rw[←hN] at MT;have GC1:=aa MT;have vx:=aa hg;have HN:=aa hN;clear gC MT hg hN;go_wp2_with fail;go_loopw [8] (fun iv wr=>∃i:Nat,i≤32∧iv=.int .i64 i∧wr.heap[gK]?=some (.cells (ba ⟨dp,F,N,sC cn 32 i,Wt⟩).toArray 69 (0,0))∧W3.grownBy wr (some gK)) (fun iv _=>32-(intOf iv).toNat)
      case atStart=>exact⟨0,by omega,rfl,by rw[si,←aei.out];exact GC1.out,vx.out⟩
      case round=>
       obtain⟨i,hi,rfl,gC,hg⟩:=hrel
       by_cases aL:i<32
       · have hjt:decide ((i:Int)<32)=true:=af9 (by omega)
         have Lr:i<cn.length:=by rw[j9.out];exact aL
         obtain⟨q,hq⟩:∃q,q=13+i:=⟨_,rfl⟩;have Z1:q<D.length:=by rw[yR.out];omega
         have hqI:(13:Int)+(i:Int)=(q:Int):=by omega
         obtain⟨y,hy⟩:∃y,y=cn[i]:=⟨_,rfl⟩;have ey:D[q]=y:=by subst hq;rw[hy,Hci.out i Lr Z1]
         have d:=SY.out wr hg q Z1;rw[ey] at d;have hlen:(sC cn 32 i).length=32:=kG cn 32 i hi (by rw[j9.out];exact af2 _);have xT:=sr dp F N (sC cn 32 i) (Wt) QN.out hlen L33.out;have c1:=QD gC (k:=6+i) (by rw[xT];omega);generalize (ba ⟨dp,F,N,sC cn 32 i,Wt⟩)[6+i]'(by rw[xT];omega)=acb at c1
         have z1:=bV gC (6+i);have g4:=Uw (k:=6+i) (v:=.int .u8 (y.toNat:Int)) gC;rw[L9 _ _ _ _ _ _ _ QN.out (by rw[hlen];exact aL),hy,vf cn 32 i aL Lr,←hy] at g4;have G4:=aa g4;have Hg:=aa hg;clear Lr hq Z1 hy ey hlen xT g4 gC hg;go_wp2_with fail;exact⟨⟨i+1,by omega,by go_num,G4.out,be Hg.out _ _⟩,by simp only[intOf];omega⟩
       obtain rfl:i=32:=by omega
       have MT:=gC;rw[sg cn 32 j9.out.symm] at MT;have GC2:=aa MT;have Hg2:=aa hg;clear gC MT hg;go_wp2_with fail;go_loopw [9] (fun iv wr=>∃i:Nat,i≤33∧iv=.int .i64 i∧wr.heap[gK]?=some (.cells (ba ⟨dp,F,N,cn,sC da 33 i⟩).toArray 69 (0,0))∧W3.grownBy wr (some gK)) (fun iv _=>33-(intOf iv).toNat)
       case atStart=>exact⟨0,by omega,rfl,by rw[si,←aej.out];exact GC2.out,Hg2.out⟩
       case round=>
        obtain⟨i,hi,rfl,gC,hg⟩:=hrel
        by_cases aL:i<33
        · have hjt:decide ((i:Int)<33)=true:=af9 (by omega)
          have Lr:i<da.length:=by rw[MB.out];exact aL
          obtain⟨q,hq⟩:∃q,q=45+i:=⟨_,rfl⟩;have Z1:q<D.length:=by rw[yR.out];omega
          have hqI:(45:Int)+(i:Int)=(q:Int):=by omega
          obtain⟨y,hy⟩:∃y,y=da[i]:=⟨_,rfl⟩;have ey:D[q]=y:=by subst hq;rw[hy,Hdi.out i Lr Z1]
          have d:=SY.out wr hg q Z1;rw[ey] at d;have hlen:(sC da 33 i).length=33:=kG da 33 i hi (by rw[MB.out];exact af2 _);have xT:=sr dp F N (cn) (sC da 33 i) QN.out j9.out hlen;have c1:=QD gC (k:=38+i) (by rw[xT];omega);generalize (ba ⟨dp,F,N,cn,sC da 33 i⟩)[38+i]'(by rw[xT];omega)=acb at c1
          have z1:=bV gC (38+i);have g4:=Uw (k:=38+i) (v:=.int .u8 (y.toNat:Int)) gC;rw[Ma _ _ _ _ _ _ _ QN.out j9.out,hy,vf da 33 i aL Lr,←hy] at g4;have G4:=aa g4;have Hg:=aa hg;clear Lr hq Z1 hy ey hlen xT g4 gC hg;go_wp2_with fail;exact⟨⟨i+1,by omega,by go_num,G4.out,be Hg.out _ _⟩,by simp only[intOf];omega⟩
        obtain rfl:i=33:=by omega
        have MT:=gC;rw[sg da 33 MB.out.symm] at MT;have Wi:=aa MT;have XA:=aa hg;clear gC MT hg;clear aL;have MQ:k=⟨dp,F,N,cn,da⟩:=by rw[Hke.out,HN.out]
        obtain⟨cs,bB⟩:∃cs,cs=(ba k).toArray:=⟨_,rfl⟩;have gKw:wr.heap[gK]?=some (.cells cs 69 (0,0)):=by rw[bB,MQ];exact Wi.out
        have dX:cs.size=71:=by rw[bB];simp[aI Vz.out]
        have fJ:Hid ((Tryz.prog.info? 69).map (·.size)=some cs.size):=aa (by rw[dX];kernel_rfl);have kL:Hid (kz.size=cs.size):=aa (by rw[dX];rfl);have mR:Hid (cs.all (·.oneCell')=true):=aa (by rw[bB];exact jK k);have HT:=aa (fun W=>zC k Vz.out W);have HG:=aa (fun W=>Md k Vz.out W);rw[←bB] at HT HG;obtain⟨tB,MM⟩:∃tB:ByteArray,tB=⟨(eO k).toArray⟩:=⟨_,rfl⟩;rw[←MM] at HT
        have hx:(tB.toList==s.toList)=decide (eO k=S):=by
         rw[agt,agt,MM,Jh.out,Bool.eq_iff_iff];simp
        obtain⟨gd,tF⟩:=ab k.good;rw[←tF] at HG sZ;have Wu:qy k=(decide (0<dp.toNat)||(decide (F=[0,0,0,0])&&decide (N=0))):=by rw[MQ,qy]
        have HRr:Hid (R=if decide (eO k=S)&&gd&&(decide (0<dp.toNat)||(decide (F=[0,0,0,0])&&decide (N=0))) then (0,k) else (3,aP)):=aa (by
         rw[sZ.out,Wu,show decide (eO k=S)=decide (dY (D.take 4)=eb k.priv) from decide_eq_decide.2 Htx.out])
        have Ed:=aa (ei.out.grown XA.out ei.out.size (fun _ h=>by cases h;exact HwK.out));have pL:=aa ((XA.out.block B (aJ fo.out) (by have:=Wp.out;simp only[Option.some.injEq,ne_eq];omega)).trans fo.out);have GK:=aa gKw;have oX:=aa bB
        have HkC:Hid (∀W:World,W.heap[gK]?=some (.cells cs 69 (0,0))→W.cell? ⟨gK,0,none⟩=some (.int .u8 (dp.toNat:Int))∧W.cell? ⟨gK,5,none⟩=some (.int .u32 (N:Int))∧W.rangeAt gK 1 (B8 F)):=aa (fun W hW=>by
         have hL:∀j,W.cell? ⟨gK,j,none⟩=(ba k)[j]?:=fun j=>by rw[agb _ _ _ _ _ _ hW,bB];simp
         refine⟨by rw[hL,MQ];rfl,by rw[hL,MQ];exact xR _ _ _ _ _ QN.out,fun j v hv=>?_⟩;have hj:j<(B8 F).length:=(agI.1 hv).1;rw[Nat.add_comm,hL (j+1),MQ,ba,agG,agK hj];exact hv)
        have I4:=aa (show (Tryz.prog.info? 54).map (·.size)=some (B8 F).length by rw[B8_length,QN.out];kernel_rfl);have HE4:=aa (eq4 F QN.out);have afQ:N<4294967296:=by have:=Vz.out.child;rw[MQ] at this;exact this
        have hd8:=dp.toNat_lt;have Le:Hid (B≠gK):=aa (by have:=Wp.out;omega);clear MQ gKw dX MM tF Wu bB GC1 vx GC2 Hg2 Wi XA HL0 Yk HI0 HZ0 H10 SY Ym Hke HFi HCi Hci Hdi sZ j9 MB HCl;go_wp2_with (first|((with_reducible refine cF ?c1 69 (.tmp 6) ?c2 gK ?c3 69 cs (0,0) _ GK.out Tryz.underlying69 ?c4 fJ.out ?_);(case c2=>rfl);(case c3=>rfl);(case c4=>rfl);(case c1=>first|rfl|kernel_rfl)));refine(HT.out _).mono ?_;rintro e w6 ⟨rfl,fv⟩;have Z2:=aa ((fv.block gK (aJ GK.out)).trans GK.out);have pO:=aa ((fv.block B (aJ pL.out)).trans pL.out);have Dz:=aa (Ed.out.trans (fv.mono Ed.out.size));clear fv HT
        by_cases hT:eO k=S
        · rw[af9 hT] at hx
          go_wp2_with (first|((with_reducible refine cF ?c1 69 (.tmp 6) ?c2 gK ?c3 69 cs (0,0) _ Z2.out Tryz.underlying69 ?c4 fJ.out ?_);(case c2=>rfl);(case c3=>rfl);(case c4=>rfl);(case c1=>first|rfl|kernel_rfl)));refine(HG.out _).mono ?_;rintro e w7 ⟨rfl,kR⟩;have GK7:=aa ((kR.block gK (aJ Z2.out)).trans Z2.out);have yA:=aa ((kR.block B (aJ pO.out)).trans pO.out);have Us:=aa (Dz.out.trans (kR.mono Dz.out.size));clear kR HG
          cases gd
          · go_wp2_with (first|((with_reducible refine af6 ?_ 69 (.tmp 2) (.tmp 99) ?_ B kz ?_ ?_ 69 _ yA.out MS rfl mQ ?_);rfl;rfl;rfl;rfl))
            have FE:R=(3,aP):=by rw[HRr.out];simp
            refine agf (v:=.tuple #[.agg kz,.int .i64 3]) ?_ rfl ⟨by rw[FE,pX];rfl,ah Us.out pM.out _⟩
            exact ai rfl _ _ B 69 kz (0,0) _ rfl (agd _ _ _ _ _ _ yA.out) _ rfl Tryz.underlying69 rfl MS
          have hk7:=HkC.out w7 GK7.out;have k0:=hk7.1;have k5:=hk7.2.1;have K1:=aa hk7.2.2;clear hk7
          by_cases Kp:0<dp.toNat
          · have VA:((dp.toNat:Int)==0)=false:=by simp;omega
            go_wp2_with (first|((with_reducible refine cF ?c1 69 (.tmp 6) ?c2 gK ?c3 69 cs (0,0) _ GK7.out Tryz.underlying69 ?c4 fJ.out ?_);(case c2=>rfl);(case c3=>rfl);(case c4=>rfl);(case c1=>first|rfl|kernel_rfl))|((with_reducible refine af6 ?_ 69 (.tmp 2) (.tmp 100) ?_ B cs ?_ ?_ 69 _ yA.out fJ.out kL.out mR.out ?_);rfl;rfl;rfl;rfl));have FE:R=(0,k):=by rw[HRr.out];simp[hT,Kp]
            refine agf (v:=.tuple #[.agg cs,.int .i64 0]) ?_ rfl ⟨by rw[FE,oX.out];rfl,ah Us.out pM.out _⟩
            exact ai rfl _ _ B 69 cs (0,0) _ rfl (agd _ _ _ _ _ _ yA.out) _ rfl Tryz.underlying69 rfl fJ.out
          have ED:dp.toNat=0:=by omega
          have e4:=HE4.out
          by_cases Ey:F=[0,0,0,0]
          · have e4:=fun W=>(HE4.out W).trans (by rw[af9 Ey])
            have AJ:=aa Ey;clear Ey
            by_cases IC:N=0
            · have hNI:((N:Int)!=0)=false:=by simp;omega
              go_wp2_with (first|((with_reducible refine bj ?c1 54 (.tmp 88) ?c2 gK 1 ?c3 (B8 F) _ K1.out Tryz.underlying54 ?c4 I4.out ?_);(case c2=>rfl);(case c3=>rfl);(case c4=>rfl);(case c1=>first|rfl|kernel_rfl))|((with_reducible refine cF ?c1 69 (.tmp 6) ?c2 gK ?c3 69 cs (0,0) _ GK7.out Tryz.underlying69 ?c4 fJ.out ?_);(case c2=>rfl);(case c3=>rfl);(case c4=>rfl);(case c1=>first|rfl|kernel_rfl))|((with_reducible refine af6 ?_ 69 (.tmp 2) (.tmp 100) ?_ B cs ?_ ?_ 69 _ yA.out fJ.out kL.out mR.out ?_);rfl;rfl;rfl;rfl));have FE:R=(0,k):=by rw[HRr.out];simp[hT,AJ.out,IC]
              refine agf (v:=.tuple #[.agg cs,.int .i64 0]) ?_ rfl ⟨by rw[FE,oX.out];rfl,ah Us.out pM.out _⟩
              exact ai rfl _ _ B 69 cs (0,0) _ rfl (agd _ _ _ _ _ _ yA.out) _ rfl Tryz.underlying69 rfl fJ.out
            have hNI:((N:Int)!=0)=true:=by simp;omega
            go_wp2_with (first|((with_reducible refine bj ?c1 54 (.tmp 88) ?c2 gK 1 ?c3 (B8 F) _ K1.out Tryz.underlying54 ?c4 I4.out ?_);(case c2=>rfl);(case c3=>rfl);(case c4=>rfl);(case c1=>first|rfl|kernel_rfl))|((with_reducible refine af6 ?_ 69 (.tmp 2) (.tmp 99) ?_ B kz ?_ ?_ 69 _ yA.out MS rfl mQ ?_);rfl;rfl;rfl;rfl));have FE:R=(3,aP):=by rw[HRr.out];simp[ED,IC]
            refine agf (v:=.tuple #[.agg kz,.int .i64 3]) ?_ rfl ⟨by rw[FE,pX];rfl,ah Us.out pM.out _⟩
            exact ai rfl _ _ B 69 kz (0,0) _ rfl (agd _ _ _ _ _ _ yA.out) _ rfl Tryz.underlying69 rfl MS
          have e4:=fun W=>(HE4.out W).trans (by rw[af8 Ey])
          go_wp2_with (first|((with_reducible refine bj ?c1 54 (.tmp 88) ?c2 gK 1 ?c3 (B8 F) _ K1.out Tryz.underlying54 ?c4 I4.out ?_);(case c2=>rfl);(case c3=>rfl);(case c4=>rfl);(case c1=>first|rfl|kernel_rfl))|((with_reducible refine af6 ?_ 69 (.tmp 2) (.tmp 99) ?_ B kz ?_ ?_ 69 _ yA.out MS rfl mQ ?_);rfl;rfl;rfl;rfl));have FE:R=(3,aP):=by rw[HRr.out];simp[ED,Ey]
          refine agf (v:=.tuple #[.agg kz,.int .i64 3]) ?_ rfl ⟨by rw[FE,pX];rfl,ah Us.out pM.out _⟩
          exact ai rfl _ _ B 69 kz (0,0) _ rfl (agd _ _ _ _ _ _ yA.out) _ rfl Tryz.underlying69 rfl MS
        rw[af8 hT] at hx;go_wp2_with (first|((with_reducible refine af6 ?_ 69 (.tmp 2) (.tmp 99) ?_ B kz ?_ ?_ 69 _ pO.out MS rfl mQ ?_);rfl;rfl;rfl;rfl));have FE:R=(3,aP):=by rw[HRr.out];simp[hT]
        refine agf (v:=.tuple #[.agg kz,.int .i64 3]) ?_ rfl ⟨by rw[FE,pX];rfl,ah Dz.out pM.out _⟩
        exact ai rfl _ _ B 69 kz (0,0) _ rfl (agd _ _ _ _ _ _ pO.out) _ rfl Tryz.underlying69 rfl MS
   have kQ:D.length≠78:=fun e=>h78 (by rw[Hn.out,e])
   have x4:R=(2,aP):=by rw[HR.out,if_pos rfl,ku,if_neg kQ]
   have lf:=aa x4;clear x4 kQ;go_wp2_with ((with_reducible refine af6 ?_ 69 (.tmp 2) (.tmp 22) ?_ B kz ?_ ?_ 69 _ ja.out MS rfl mQ ?_);rfl;rfl;rfl;rfl);refine agf (v:=.tuple #[.agg kz,.int .i64 2]) ?_ rfl ⟨by rw[lf.out,pX];rfl,ah jN.out pM.out _⟩
   exact ai rfl _ _ B 69 kz (0,0) _ rfl (agd _ _ _ _ _ _ ja.out) _ rfl Tryz.underlying69 rfl MS
 have x4:R=(E,aP):=by rw[HR.out,if_neg me]
 have lf:=aa x4;clear x4;go_wp2_with ((with_reducible refine af6 ?_ 69 (.tmp 2) (.tmp 17) ?_ B kz ?_ ?_ 69 _ ja.out MS rfl mQ ?_);rfl;rfl;rfl;rfl);refine agf (v:=.tuple #[.agg kz,.int .i64 (E:Int)]) ?_ rfl ⟨by rw[lf.out,pX],ah jN.out pM.out _⟩
 exact ai rfl _ _ B 69 kz (0,0) _ rfl (agd _ _ _ _ _ _ ja.out) _ rfl Tryz.underlying69 rfl MS
end Go.Proofs.YtcjioogololnoaaGreatDoor
