/- Of any text: the program's descriptors and the reference's are read and written alike (DescParses). No condition. -/
import Derived.Test.YtcjioogololnoaaGreatDoorU1
import Derived.Test.YtcjioogololnoaaGreatDoorU27
import Derived.Test.YtcjioogololnoaaGreatDoorU12
set_option maxRecDepth 1000000
set_option maxHeartbeats 16000000
set_option linter.unusedVariables false
set_option linter.unusedSimpArgs false
namespace Go.Proofs.YtcjioogololnoaaGreatDoor
open Go Go.RowKit Go.Shelf
theorem Uz (x y:Nat) (hx:x<2^256) (hy:y<2^256) (w:World):
 Calls Tryz.prog 154 #[.agg (R8 x),.agg (R8 y),.agg (R8 al)] w fun e W'=>e=.returned (.agg (R8 ((x+y)%al)))∧Below w.heap.size w W':=by
 have bW:Tryz.prog.follows .mixedOrders=true:=by kernel_rfl
 obtain⟨R,hR⟩:∃R,R=(x+y)%al:=⟨_,rfl⟩;rw[←hR];obtain⟨X,hX⟩:=ab (nu 8 x);obtain⟨Y,hY⟩:=ab (nu 8 y);have BP:Hid (X.length=8):=aa (by rw[hX,aS]);have P4:Hid (Y.length=8):=aa (by rw[hY,aS]);have Zl:Hid (∀t∈X,t<4294967296):=aa (by rw[hX];exact np 8 x);have Zm:Hid (∀t∈Y,t<4294967296):=aa (by rw[hY];exact np 8 y);have RO:Hid (wu X=x):=aa (by rw[hX];exact lk 8 x hx);have Wc:Hid (wu Y=y):=aa (by rw[hY];exact lk 8 y hy);have Wf:Hid (x<2^256∧y<2^256):=aa ⟨hx,hy⟩;obtain⟨A,hA⟩:=ab (R8 x);obtain⟨B,hB⟩:=ab (R8 y);obtain⟨M,hM⟩:=ab (R8 al);have GG:R8 0=#[.int .u32 0,.int .u32 0,.int .u32 0,.int .u32 0,.int .u32 0,.int .u32 0,.int .u32 0,.int .u32 0]:=by kernel_rfl
 rw[←hA,←hB,←hM];obtain⟨W0,aM⟩:∃W0,W0=((((w.alloc (.cells A 121)).alloc (.cells B 121)).alloc (.cells M 121)).alloc (.cells (R8 0) 121)).alloc (.cells (cL (List.replicate 17 0)).toArray 236):=⟨_,rfl⟩;have h5:=xM w (.cells A 121) (.cells B 121) (.cells M 121) (.cells (R8 0) 121) (.cells (cL (List.replicate 17 0)).toArray 236);have dh:Hid (Below w.heap.size w W0):=aa (by rw[aM];exact(((((af5 _ w).alloc (af2 _) _).alloc (by simp) _).alloc (by simp;omega) _).alloc (by simp;omega) _).alloc (by simp;omega) _);rw[←aM] at h5;obtain⟨gX,gY,gM,gO,gT⟩:=h5;rw[hA,R8,←hX] at gX;rw[hB,R8,←hY] at gY;rw[hM] at gM;rw[GG] at aM;obtain⟨G,hG⟩:=ab w.heap.size;rw[←hG] at gX gY gM gO gT;have GX:=aa gX;have GY:=aa gY;have GM:=aa gM;have GO:=aa gO;have GT:=aa gT;have gJ:=aa aM;have HG:=aa hG;have HR:=aa hR;clear hX hY hA hB hM GG aM gX gY gM gO gT hG hx hy hR;go_enter Tryz.func154,Tryz.ntmps154;go_wp2_with fail;refine(show W0=_ from gJ.out)▸?_;rw[←HG.out];go_loopw [8,9] (fun cv iv wr=>∃(i c:Nat) (T:List Nat),i≤8∧iv=.int .i64 i∧cv=.int .u64 c∧c<2∧Hid (T.length=17∧(∀t∈T,t<4294967296)∧NZ T i∧wu T+c*2^(32*i)=wu (X.take i)+wu (Y.take i))∧wr.heap[G+1+1+1+1]?=some (.cells (cL T).toArray 236 (0,0))∧W0.grownBy wr (some (G+1+1+1+1))) (fun _ iv _=>8-(intOf iv).toNat)
 case atStart=>exact⟨0,0,List.replicate 17 0,by omega,rfl,rfl,by omega,aa ⟨by simp,by simp,fun j _ hj=>by rw[List.getElem?_replicate,if_pos hj],by rw[xE];simp[wu]⟩,GT.out,cV _ _⟩
 case round=>
  obtain⟨i,c,T,hi,rfl,rfl,hc,HT,gT,hg⟩:=hrel
  by_cases aL:i<8
  · have Kg:i<X.length:=by rw[BP.out];exact aL
    have hiY:i<Y.length:=by rw[P4.out];exact aL
    have vc:i<T.length:=by rw[HT.out.1];omega
    have gX:=(hg.block G (aJ GX.out) (by simp;omega)).trans GX.out;have gY:=(hg.block (G+1) (aJ GY.out) (by simp)).trans GY.out;have h0:=HT.out.2.2.1.at (by omega) vc;have nz:=Um T X Y i c ((X[i]+Y[i]+c)/4294967296) ((X[i]+Y[i]+c)%4294967296) vc Kg hiY h0 (by omega) HT.out.2.2.2;have cX:=cO gX Kg;have cY:=cO gY hiY;have Zn:=Zl.out _ (agl Kg);have Pj:=Zm.out _ (agl hiY);generalize X[i]=a at cX nz Zn;generalize Y[i]=d at cY nz Pj;obtain⟨s,hs⟩:∃s,s=a+d+c:=⟨_,rfl⟩;rw[←hs] at nz;have hsI:(a:Int)+(d:Int)+(c:Int)=(s:Int):=by omega
    have CF:s<8589934592:=by omega
    have cN:=cO gT vc;rw[h0] at cN;have zN:=bV gT i;have HF:Hid ((T.set i (s%4294967296)).length=17∧(∀t∈T.set i (s%4294967296),t<4294967296)∧NZ (T.set i (s%4294967296)) (i+1)∧wu (T.set i (s%4294967296))+s/4294967296*2^(32*(i+1))=wu (X.take (i+1))+wu (Y.take (i+1))):=aa ⟨by rw[List.length_set];exact HT.out.1,oM HT.out.2.1 (Nat.mod_lt _ (by decide)) i,(HT.out.2.2.1.mono (by omega)).set (by omega),nz⟩;have GC:=aa gT;have Hg:=aa hg;clear nz h0 gX gY gT hg Kg hiY vc HT hs;go_wp2_with fail;refine an [(0,0),(1,0),(2,1),(3,0),(4,0),(5,0),(6,1),(7,0),(8,0),(9,0),(10,0),(11,0)] 12 bW (by kernel_rfl) (by intro c a d v w h;cases d<;>exact h) ?_
    repeat ((first|refine ag rfl fun K hK=>?_|refine af rfl fun K hK=>?_);go_simp;(first|refine hK _ ?_|(simp only[IntWalk.iteOmega];go_simp;refine hK _ ?_)|(go_bits;go_simp;refine hK _ ?_));clear hK K;try go_bits)
    refine ak ?_;go_wp2_with fail;have jY:(s:Int)%4294967296=((s%4294967296:Nat):Int):=by omega
    have px:(s:Int)/4294967296=((s/4294967296:Nat):Int):=by omega
    rw[jY,px];exact⟨⟨i+1,s/4294967296,T.set i (s%4294967296),by omega,by go_num,rfl,by omega,HF,by rw[heap_drew,kF GC.out],eQ (be Hg.out _ _)⟩,by simp only[intOf];omega⟩
  obtain rfl:i=8:=by omega
  have gM:=(hg.block (G+1+1) (aJ GM.out) (by simp)).trans GM.out;have gO:=(hg.block (G+1+1+1) (aJ GO.out) (by simp)).trans GO.out;have iD:=D7 T 8 c _ HT.out.1 HT.out.2.2.1 (by omega) HT.out.2.2.2;rw[af7 (by rw[BP.out];omega),af7 (by rw[P4.out];omega),RO.out,Wc.out] at iD;have HF:Hid ((T.set 8 c).length=17∧(∀t∈T.set 8 c,t<4294967296)∧wu (T.set 8 c)=x+y):=aa ⟨by rw[List.length_set];exact HT.out.1,oM HT.out.2.1 (by omega) 8,iD⟩;have cN:=cO gT (k:=8) (by rw[HT.out.1];omega);generalize T[8]'(by rw[HT.out.1];decide)=tt at cN
  have zN:=bV gT 8
  have Jo:∀W,Calls Tryz.prog 185 #[.agg (cL (T.set 8 c)).toArray,.agg (R8 al)] W fun e W'=>e=.returned (.agg (R8 R))∧Below W.heap.size W W':=fun W=>by
   have:=xL (T.set 8 c) HF.out.1 HF.out.2.1 (by rw[HF.out.2.2];exact LJ Wf.out.1 Wf.out.2) W;rw[HF.out.2.2,←HR.out] at this;exact this
  have ZA:=aa Jo;obtain⟨wq,Nz⟩:∃wq,wq=wr.setCell ⟨G+1+1+1+1,8,none⟩ (.int .u32 (c:Int)):=⟨_,rfl⟩;have hgq:W0.grownBy wq (some (G+1+1+1+1)):=by rw[Nz];exact be hg _ _
  have gTq:wq.heap[G+1+1+1+1]?=some (.cells (cL (T.set 8 c)).toArray 236 (0,0)):=by rw[Nz];exact kF gT
  have ra:=aa (GF HF.out.1);have jN:Hid (Below w.heap.size w wq):=aa (dh.out.grown hgq dh.out.size (fun _ h=>by cases h;rw[HG.out];omega));have GM1:=aa ((hgq.block (G+1+1) (aJ GM.out) (by simp)).trans GM.out);have P5:=aa ((hgq.block (G+1+1+1) (aJ GO.out) (by simp)).trans GO.out);have Zo:=aa gTq;have Hwq:=aa Nz;clear gM gO gT hg Jo iD Nz hgq gTq;go_wp2_with (first|(refine(show wq=_ from Hwq.out)▸?_;refine aga rfl 236 (.tmp 7) rfl (G+1+1+1+1) rfl 236 (cL (T.set 8 c)).toArray (0,0) _ Zo.out Tryz.underlying236 rfl ra.out ?_)|(refine aga rfl 121 (.tmp 5) rfl (G+1+1) rfl 121 (R8 al) (0,0) _ GM1.out Tryz.underlying121 rfl (aC _) ?_));refine(ZA.out _).mono ?_;rintro e w2 ⟨rfl,bt⟩;have vJ:=aa ((bt.block (G+1+1+1) (aJ P5.out)).trans P5.out);have mH:=aa (jN.out.trans (bt.mono jN.out.size));clear bt;go_wp2_with (first|(refine af6 rfl 121 (.tmp 6) (.tmp 37) rfl (G+1+1+1) (R8 R) rfl rfl 121 _ vJ.out (aC _) rfl (fi _) ?_));refine agf (v:=.agg (R8 R)) ?_ rfl ⟨rfl,ah mH.out (by rw[HG.out];omega) _⟩;exact ags rfl _ _ (G+1+1+1) 121 (R8 R) (0,0) _ rfl (agd _ _ _ _ _ _ vJ.out) Tryz.underlying121 rfl (aC _)
theorem QL (y:Nat) (hy:y<2^256) (w:World):
 Calls Tryz.prog 157 #[.agg (R8 0),.agg (R8 y),.agg (R8 al)] w fun e W'=>(∃v,e=.returned (.agg (R8 v)))∧Below w.heap.size w W':=by
 have bW:Tryz.prog.follows .mixedOrders=true:=by kernel_rfl
 obtain⟨W0,aM⟩:∃W0,W0=(((w.alloc (.cells (R8 0) 121)).alloc (.cells (R8 y) 121)).alloc (.cells (R8 al) 121)).alloc (.cells (R8 0) 121):=⟨_,rfl⟩;have h4:=jH w (.cells (R8 0) 121) (.cells (R8 y) 121) (.cells (R8 al) 121) (.cells (R8 0) 121);have dh:Hid (Below w.heap.size w W0):=aa (by rw[aM];exact((((af5 _ w).alloc (af2 _) _).alloc (by simp) _).alloc (by simp;omega) _).alloc (by simp;omega) _);have GG:R8 0=#[.int .u32 0,.int .u32 0,.int .u32 0,.int .u32 0,.int .u32 0,.int .u32 0,.int .u32 0,.int .u32 0]:=by kernel_rfl
 obtain⟨A,hA⟩:=ab (R8 0);obtain⟨B,hB⟩:=ab (R8 y);obtain⟨M,hM⟩:=ab (R8 al);have hAz:A.size=8:=by rw[hA,bZ]
 have hBz:B.size=8:=by rw[hB,bZ]
 have hR:=jH w (.cells A 121) (.cells B 121) (.cells M 121) (.cells #[.int .u32 0,.int .u32 0,.int .u32 0,.int .u32 0,.int .u32 0,.int .u32 0,.int .u32 0,.int .u32 0] 121)
 have RX:=aa hR.1;have RY:=aa hR.2.1;have HAs:Hid ((Tryz.prog.info? 121).map (·.size)=some A.size):=aa (by rw[hAz];exact oL);have HBs:Hid ((Tryz.prog.info? 121).map (·.size)=some B.size):=aa (by rw[hBz];exact oL);rw[←aM] at h4;obtain⟨gX,gY,gM,gO⟩:=h4;obtain⟨G,hG⟩:=ab w.heap.size;rw[←hG] at gX gY gM gO;have ab8:W0=(((w.alloc (.cells A 121)).alloc (.cells B 121)).alloc (.cells M 121)).alloc (.cells #[.int .u32 0,.int .u32 0,.int .u32 0,.int .u32 0,.int .u32 0,.int .u32 0,.int .u32 0,.int .u32 0] 121):=by rw[←GG,hA,hB,hM];exact aM
 have gJ:=aa ab8;have HA:=aa hA;have HB:=aa hB;rw[show (#[.agg (R8 0),.agg (R8 y),.agg (R8 al)]:Array Value)=#[.agg A,.agg B,.agg M] from by rw[hA,hB,hM]]
 have HL:=aa (fun W=>sa 0 y (by decide) hy W);have Fq:=aa (fun W=>mz y 0 hy (by decide) W);have sS:=aa (fun W=>mz al ((y+2^256-0)%2^256) fw (Nat.mod_lt _ (by decide)) W);have Fs:=aa (fun W=>mz 0 y (by decide) hy W);generalize (al+2^256-(y+2^256-0)%2^256)%2^256=v2 at sS;generalize (y+2^256-0)%2^256=v1 at Fq sS;generalize (0+2^256-y)%2^256=v3 at Fs;have GX:=aa gX;have GY:=aa gY;have GM:=aa gM;have GO:=aa gO;have HG:=aa hG;clear aM ab8 GG gX gY gM gO hG hy hA hB hM hAz hBz hR;go_enter Tryz.func157,Tryz.ntmps157;go_wp2_with (first|(refine aga rfl 121 (.tmp 3) rfl w.heap.size rfl 121 A (0,0) _ RX.out Tryz.underlying121 rfl HAs.out ?_)|(refine aga rfl 121 (.tmp 4) rfl (w.heap.size+1) rfl 121 B (0,0) _ RY.out Tryz.underlying121 rfl HBs.out ?_));refine(show W0=_ from gJ.out)▸?_;rw[←HG.out];rw[HA.out,HB.out];refine(HL.out _).mono ?_;rintro e w2 ⟨rfl,bt⟩;have GX2:=aa ((bt.block G (aJ GX.out)).trans GX.out);have GY2:=aa ((bt.block (G+1) (aJ GY.out)).trans GY.out);have GM2:=aa ((bt.block (G+1+1) (aJ GM.out)).trans GM.out);have vJ:=aa ((bt.block (G+1+1+1) (aJ GO.out)).trans GO.out);have mH:=aa (dh.out.trans (bt.mono dh.out.size));clear bt
 by_cases h0:0<y
 · rw[af9 h0]
   go_wp2_with fail;refine an [(0,1),(1,1),(2,1),(3,2),(4,2),(5,2)] 5 bW (by kernel_rfl) (by intro c a d v w h;cases d<;>exact h) ?_;refine aX rfl rfl 121 (.tmp 5) rfl (G+1+1) rfl 121 (R8 al) (0,0) _ GM2.out Tryz.underlying121 rfl (aC _) ?_;refine aX rfl rfl 121 (.tmp 4) rfl (G+1) rfl 121 (R8 y) (0,0) _ GY2.out Tryz.underlying121 rfl (aC _) ?_;refine aX rfl rfl 121 (.tmp 3) rfl G rfl 121 (R8 0) (0,0) _ GX2.out Tryz.underlying121 rfl (aC _) ?_;refine ae rfl rfl (fun K hK=>?_);go_wp2_with fail;refine(Fq.out _).mono ?_;rintro e w3 ⟨rfl,bd⟩;go_wp2_with fail;refine⟨.inr (aj bd),?_⟩;refine ae rfl rfl (fun K hK=>?_);go_wp2_with fail;refine(sS.out _).mono ?_;rintro e w4 ⟨rfl,dn⟩;go_wp2_with fail;refine⟨.inr (aj dn),?_⟩;have pE:=(af5 w2.heap.size w2).drew.trans (bd.trans (dn.mono bd.size));have Vq:=(pE.block (G+1+1+1) (aJ vJ.out)).trans vJ.out;refine ae rfl rfl (fun K hK=>?_);refine agC 121 (.tmp 6) (.tmp 14) rfl (G+1+1+1) (R8 v2) rfl rfl 121 _ Vq (aC _) (by rw[bZ,bZ]) (fi _) ?_;refine hK _ _ ⟨.inl (by decide),?_⟩;refine ak ?_;go_wp2_with fail;refine agf (v:=.agg (R8 v2)) ?_ rfl ⟨⟨v2,rfl⟩,ah (mH.out.trans (pE.mono mH.out.size)) (by rw[HG.out];omega) _⟩;exact ags rfl _ _ (G+1+1+1) 121 (R8 v2) (0,0) _ rfl (agd _ _ _ _ _ _ Vq) Tryz.underlying121 rfl (aC _)
 rw[af8 h0];go_wp2_with (first|(refine aga rfl 121 (.tmp 3) rfl G rfl 121 (R8 0) (0,0) _ GX2.out Tryz.underlying121 rfl (aC _) ?_)|(refine aga rfl 121 (.tmp 4) rfl (G+1) rfl 121 (R8 y) (0,0) _ GY2.out Tryz.underlying121 rfl (aC _) ?_));refine(Fs.out _).mono ?_;rintro e w3 ⟨rfl,bd⟩;have AD:=(bd.block (G+1+1+1) (aJ vJ.out)).trans vJ.out;go_wp2_with (first|(refine af6 rfl 121 (.tmp 6) (.tmp 17) rfl (G+1+1+1) (R8 v3) rfl rfl 121 _ AD (aC _) (by rw[bZ,bZ]) (fi _) ?_));refine agf (v:=.agg (R8 v3)) ?_ rfl ⟨⟨v3,rfl⟩,ah (mH.out.trans (bd.mono mH.out.size)) (by rw[HG.out];omega) _⟩;exact ags rfl _ _ (G+1+1+1) 121 (R8 v3) (0,0) _ rfl (agd _ _ _ _ _ _ AD) Tryz.underlying121 rfl (aC _)
def z24:Array Value:=#[.int .u32 0,.int .u32 0,.int .u32 0,.int .u32 0,.int .u32 0,.int .u32 0,.int .u32 0,.int .u32 0,.int .u32 0,.int .u32 0,.int .u32 0,.int .u32 0,.int .u32 0,.int .u32 0,.int .u32 0,.int .u32 0,.int .u32 0,.int .u32 0,.int .u32 0,.int .u32 0,.int .u32 0,.int .u32 0,.int .u32 0,.int .u32 0]
def uy (a b:Nat):Array Value:=R8 a++(R8 b++R8 1)
theorem dS (a b:Nat):(uy a b).size=24:=by simp[uy,bZ]
theorem lp (a b:Nat):(uy a b).all (·.oneCell')=true:=by
 have h:=fun n=>List.all_eq_true.1 (by have:=fi n;rwa [←Array.all_toList] at this)
 rw[←Array.all_toList,List.all_eq_true];intro v hv;simp only[uy,Array.toList_append,List.mem_append] at hv;rcases hv with hv|hv|hv
 · exact h a v hv
 · exact h b v hv
 exact h 1 v hv
theorem vh (a b:Nat):Tryz.prog.built 123 [(0,.agg (R8 a)),(1,.agg (R8 b)),(2,.agg (R8 1))]=some (uy a b):=by
 have hp:∀parts,Tryz.prog.built 123 parts=Instr.fill (fun x=>(#[(0,8),(8,8),(16,8)]:Array (Nat×Nat))[x]?) (((R8 0).toList++((R8 0).toList++(R8 0).toList)).toArray) parts:=fun parts=>by kernel_rfl
 have hl:∀n,(R8 n).toList.length=8:=fun n=>by simp[bZ]
 rw[hp];have e0:((R8 0).toList++((R8 0).toList++(R8 0).toList))=([]++((R8 0).toList++((R8 0).toList++(R8 0).toList))):=rfl;rw[e0,fe _ 0 _ _ [] (R8 0).toList _ (by rw[hl];rfl) (by simp[Value.cells,bZ])];rw[agJ,fe _ 1 _ _ _ (R8 0).toList _ (by rw[hl];simp[Value.cells,bZ]) (by simp[Value.cells,bZ])];rw[←agL,←List.append_nil (R8 0).toList,fe _ 2 _ _ _ (R8 0).toList [] (by rw[hl];simp[Value.cells,bZ]) (by simp[Value.cells,bZ])];rw[Instr.fill];simp[Value.cells,uy]
theorem Mc (x:Nat) (odd:Bool) (hx:x<2^256) (w:World):
 Calls Tryz.prog 119 #[.agg (R8 x),.bool odd] w fun e W'=>∃pt:Array Value,e=.returned (.tuple #[.agg pt,.bool (eL x)])∧pt.size=24∧pt.all (·.oneCell')=true∧Below w.heap.size w W':=by
 have bW:Tryz.prog.follows .mixedOrders=true:=by kernel_rfl
 have GG:R8 0=#[.int .u32 0,.int .u32 0,.int .u32 0,.int .u32 0,.int .u32 0,.int .u32 0,.int .u32 0,.int .u32 0]:=by kernel_rfl
 have It:R8 7=#[.int .u32 7,.int .u32 0,.int .u32 0,.int .u32 0,.int .u32 0,.int .u32 0,.int .u32 0,.int .u32 0]:=by kernel_rfl
 have hO8:R8 1=#[.int .u32 1,.int .u32 0,.int .u32 0,.int .u32 0,.int .u32 0,.int .u32 0,.int .u32 0,.int .u32 0]:=by kernel_rfl
 have nM:∀n,n%al<2^256:=fun n=>Nat.lt_trans (Nat.mod_lt _ (by decide)) fw
 obtain⟨W0,aM⟩:∃W0,W0=(w.alloc (.cells (R8 x) 121)).alloc (.cells #[.int .u32 0,.int .u32 0,.int .u32 0,.int .u32 0,.int .u32 0,.int .u32 0,.int .u32 0,.int .u32 0,.int .u32 0,.int .u32 0,.int .u32 0,.int .u32 0,.int .u32 0,.int .u32 0,.int .u32 0,.int .u32 0,.int .u32 0,.int .u32 0,.int .u32 0,.int .u32 0,.int .u32 0,.int .u32 0,.int .u32 0,.int .u32 0] 123):=⟨_,rfl⟩
 obtain⟨G,hG⟩:=ab w.heap.size;have bL:Below w.heap.size w W0:=by rw[aM];exact((af5 _ w).alloc (af2 _) _).alloc (by simp) _
 have h2:=iV w (.cells (R8 x) 121) (.cells #[.int .u32 0,.int .u32 0,.int .u32 0,.int .u32 0,.int .u32 0,.int .u32 0,.int .u32 0,.int .u32 0,.int .u32 0,.int .u32 0,.int .u32 0,.int .u32 0,.int .u32 0,.int .u32 0,.int .u32 0,.int .u32 0,.int .u32 0,.int .u32 0,.int .u32 0,.int .u32 0,.int .u32 0,.int .u32 0,.int .u32 0,.int .u32 0] 123)
 rw[←aM,←hG] at h2;have HA0:Hid (LA w W0 G z24 [(G,x)]):=aa ⟨by omega,bL,h2.2,Rws.cons (Rws.nil _) h2.1,by simp,fun p hp=>by rw[agE] at hp;subst hp;exact⟨by omega,by simp⟩⟩;obtain⟨a1,BS⟩:∃a,a=x*x%al:=⟨_,rfl⟩;obtain⟨a2,C7⟩:∃a,a=a1*x%al:=⟨_,rfl⟩;obtain⟨s7,Mu⟩:∃a,a=(a2+7)%al:=⟨_,rfl⟩;have la1:a1<2^256:=by rw[BS];exact nM _
 have la2:a2<2^256:=by rw[C7];exact nM _
 have ls7:s7<2^256:=by rw[Mu];exact nM _
 have Fq:=aa (fun W=>sf x x hx hx W);rw[←BS] at Fq;have sS:=aa (fun W=>sf a1 x la1 hx W);rw[←C7] at sS;have Fs:=aa (fun W=>Uz a2 7 la2 (by decide) W);rw[←Mu,It] at Fs;have Hs7:Hid (s7=uY x):=aa (by rw[Mu,C7,BS];rfl);obtain⟨E,hE⟩:∃E,E=(al+1)/4:=⟨_,rfl⟩;have hE2:E<2^256:=by rw[hE];decide+kernel
 obtain⟨y,hy⟩:=ab (pw al s7 E);have ly:y<2^256:=by rw[hy,pw];exact zB _ _ _
 have HPw:=aa (fun W=>Qi s7 E ls7 hE2 W);rw[←hy] at HPw;have HY2:=aa (fun W=>sf y y ly ly W);have HSub:=aa (fun W=>QL y ly W);rw[GG] at HSub;obtain⟨y2,V8⟩:∃y2,y2=y*y%al:=⟨_,rfl⟩;have ly2:y2<2^256:=by rw[V8];exact nM _
 rw[←V8] at HY2;have Vw:Hid (eL x=decide (y2=s7)):=aa (by rw[eL,Iw,←Hs7.out,←hE,←hy,V8]);have HEv:Hid (E=(al+1)/2^2):=aa hE;have aeg:=aa ly2;have Hls:=aa ls7;obtain⟨A,hA⟩:=ab (R8 x);rw[←hA] at aM;have gJ:=aa aM;have HG:=aa hG;have HZ8:=aa GG;have HO8:=aa hO8;rw[show Value.agg (R8 x)=.agg A from by rw[hA]];clear GG hO8 It nM aM hG bL h2 BS C7 Mu la1 la2 ls7 hE hE2 hy ly V8 ly2 hA hx;go_enter Tryz.func119,Tryz.ntmps119;go_wp2_with fail;refine(show W0=_ from gJ.out)▸?_;rw[←HG.out];refine(GD W0).mono ?_;rintro e w1 ⟨rfl,aZ⟩;have HA1:=aa (HA0.out.below aZ);obtain⟨gp,hgp⟩:=ab w1.heap.size;obtain⟨W1,kK⟩:=ab (w1.alloc (.cells (R8 al) 121));have nH:Hid (LA w W1 G z24 [(gp,al),(G,x)]):=aa (by rw[kK,hgp];exact HA1.out.new al);have Kz:=aa kK;have Hgp:=aa hgp;clear aZ hgp kK HA0 gJ HG;go_wp2_with (refine af6 rfl 121 (.tmp 6) (.tmp 15) rfl w1.heap.size (R8 al) rfl rfl 121 _ (af4 w1 _) (aC _) (by rw[bZ];rfl) (fi _) ?_;rw[agi];refine(show W1=_ from Kz.out)▸?_);rw[←Hgp.out];clear HA1 Kz Hgp w1;apply IE (fun gs wE=>LA w wE G z24 [(gs,s7),(gp,al),(G,x)])
 · intro hT
   refine dH _ 11 _ bW (by kernel_rfl) (by intro c a d v w h;cases d<;>exact h) (dG (aw _ (by intro c a d v w h;cases d<;>exact h)) (by kernel_rfl) 5 [(0,1),(1,1),(2,1),(4,1),(5,1),(7,0),(8,1)] _ (by kernel_rfl) (dE (aw _ (by intro c a d v w h;cases d<;>exact h)) 3 10 4 _ (by kernel_rfl) (dG (aw _ (by intro c a d v w h;cases d<;>exact h)) (by kernel_rfl) 4 [] _ (by kernel_rfl) (dE (aw _ (by intro c a d v w h;cases d<;>exact h)) 6 10 3 _ (by kernel_rfl) (dG (aw _ (by intro c a d v w h;cases d<;>exact h)) (by kernel_rfl) 3 [] _ (by kernel_rfl) (dE (aw _ (by intro c a d v w h;cases d<;>exact h)) 9 10 2 _ (by kernel_rfl) (bN (aw _ (by intro c a d v w h;cases d<;>exact h)) (by kernel_rfl) [(10,2),(11,2)] _ (by kernel_rfl)) (bN (aw _ (by intro c a d v w h;cases d<;>exact h)) (by kernel_rfl) [(9,2),(11,2)] _ (by kernel_rfl)))) (bN (aw _ (by intro c a d v w h;cases d<;>exact h)) (by kernel_rfl) [(6,2),(9,2),(11,2)] _ (by kernel_rfl)))) (bN (aw _ (by intro c a d v w h;cases d<;>exact h)) (by kernel_rfl) [(3,2),(6,2),(9,2),(11,2)] _ (by kernel_rfl)))) ?_;refine aX rfl rfl 121 (.tmp 2) rfl G rfl 121 (R8 x) (0,0) _ (nH.out.at_ (.tail _ (.head _))) Tryz.underlying121 rfl (aC _) ?_;refine aX rfl rfl 121 (.tmp 2) rfl G rfl 121 (R8 x) (0,0) _ (nH.out.at_ (.tail _ (.head _))) Tryz.underlying121 rfl (aC _) ?_;refine aX rfl rfl 121 (.tmp 6) rfl gp rfl 121 (R8 al) (0,0) _ (nH.out.at_ (.head _)) Tryz.underlying121 rfl (aC _) ?_;refine aX rfl rfl 121 (.tmp 2) rfl G rfl 121 (R8 x) (0,0) _ (nH.out.at_ (.tail _ (.head _))) Tryz.underlying121 rfl (aC _) ?_;refine aX rfl rfl 121 (.tmp 6) rfl gp rfl 121 (R8 al) (0,0) _ (nH.out.at_ (.head _)) Tryz.underlying121 rfl (aC _) ?_
   repeat ((first|refine ag rfl fun K hK=>?_|refine af rfl fun K hK=>?_);go_simp;(first|refine hK _ ?_|(simp only[IntWalk.iteOmega];go_simp;refine hK _ ?_)|(go_bits;go_simp;refine hK _ ?_));clear hK K;try go_bits)
   refine aX rfl rfl 121 (.tmp 6) rfl gp rfl 121 (R8 al) (0,0) _ (nH.out.at_ (.head _)) Tryz.underlying121 rfl (aC _) ?_;have HD0:Hid (LA w W1.drew G z24 [(gp,al),(G,x)]):=aa (nH.out.below (af5 _ _).drew);refine dI rfl rfl rfl rfl (fun K hK=>?_) (fun K hK=>?_)
   · go_wp2_with fail
     refine(Fq.out _).mono ?_;rintro e wt1 ⟨rfl,qT⟩;have yS:=aa (HD0.out.below qT);go_wp2_with fail;refine⟨(aj qT),?_⟩;refine dI rfl rfl rfl rfl (fun K hK=>?_) (fun K hK=>?_)
     · go_wp2_with fail
       refine(sS.out _).mono ?_;rintro e wt2 ⟨rfl,mF⟩;have qq:=aa (yS.out.below mF);go_wp2_with fail;refine⟨(aj mF),?_⟩;refine dI rfl rfl rfl rfl (fun K hK=>?_) (fun K hK=>?_)
       · go_wp2_with fail
         refine(Fs.out _).mono ?_;rintro e wt3 ⟨rfl,MK⟩;have HT3:=aa (qq.out.below MK);go_wp2_with fail;refine⟨(aj MK),?_⟩;refine ae rfl rfl (fun K hK=>?_);go_wp2_with fail;refine⟨.inr (aW _ _),?_⟩;obtain⟨wN,dL⟩:∃Y,Y=wt3.alloc (.cells #[.int .u32 0,.int .u32 0,.int .u32 0,.int .u32 0,.int .u32 0,.int .u32 0,.int .u32 0,.int .u32 0] 121):=⟨_,rfl⟩
         obtain⟨gN,ki⟩:∃Y,Y=wt3.heap.size:=⟨_,rfl⟩;have HN:Hid (LA w wN G z24 ((gN,0)::[(gp,al),(G,x)])):=aa (by rw[dL,ki,←HZ8.out];exact HT3.out.new 0);rw[←dL,←ki];clear dL ki;refine ae rfl rfl (fun K hK=>?_);refine agC 121 (.tmp 7) (.tmp 25) rfl gN (R8 s7) rfl rfl 121 _ (HN.out.at_ (.head _)) (aC _) (by rw[bZ,bZ]) (fi _) ?_;refine hK _ _ ⟨.inl (by decide),?_⟩;clear hK K;refine ak ?_;have hf:=HN.out.set s7;exact hT _ _ hf
       go_wp2_with fail;refine⟨(aW _ _),?_⟩;obtain⟨wN,dL⟩:∃Y,Y=wt2.alloc (.cells #[.int .u32 0,.int .u32 0,.int .u32 0,.int .u32 0,.int .u32 0,.int .u32 0,.int .u32 0,.int .u32 0] 121):=⟨_,rfl⟩
       obtain⟨gN,ki⟩:∃Y,Y=wt2.heap.size:=⟨_,rfl⟩;have HN:Hid (LA w wN G z24 ((gN,0)::[(gp,al),(G,x)])):=aa (by rw[dL,ki,←HZ8.out];exact qq.out.new 0);rw[←dL,←ki];clear dL ki;refine ae rfl rfl (fun K hK=>?_);go_wp2_with fail;refine(Fs.out _).mono ?_;rintro e wc2 ⟨rfl,ez⟩;have RU:=aa (HN.out.below ez);go_wp2_with fail;refine⟨.inr (aj ez),?_⟩;refine ae rfl rfl (fun K hK=>?_);refine agC 121 (.tmp 7) (.tmp 25) rfl gN (R8 s7) rfl rfl 121 _ (RU.out.at_ (.head _)) (aC _) (by rw[bZ,bZ]) (fi _) ?_;refine hK _ _ ⟨.inl (by decide),?_⟩;clear hK K;refine ak ?_;have hf:=RU.out.set s7;exact hT _ _ hf
     go_wp2_with fail;refine⟨(aW _ _),?_⟩;obtain⟨wN,dL⟩:∃Y,Y=wt1.alloc (.cells #[.int .u32 0,.int .u32 0,.int .u32 0,.int .u32 0,.int .u32 0,.int .u32 0,.int .u32 0,.int .u32 0] 121):=⟨_,rfl⟩
     obtain⟨gN,ki⟩:∃Y,Y=wt1.heap.size:=⟨_,rfl⟩;have HN:Hid (LA w wN G z24 ((gN,0)::[(gp,al),(G,x)])):=aa (by rw[dL,ki,←HZ8.out];exact yS.out.new 0);rw[←dL,←ki];clear dL ki;refine ae rfl rfl (fun K hK=>?_);go_wp2_with fail;refine(sS.out _).mono ?_;rintro e wc1 ⟨rfl,dW⟩;have HC1:=aa (HN.out.below dW);go_wp2_with fail;refine⟨.inr (aj dW),?_⟩;refine ae rfl rfl (fun K hK=>?_);go_wp2_with fail;refine(Fs.out _).mono ?_;rintro e wc2 ⟨rfl,ez⟩;have RU:=aa (HC1.out.below ez);go_wp2_with fail;refine⟨.inr (aj ez),?_⟩;refine ae rfl rfl (fun K hK=>?_);refine agC 121 (.tmp 7) (.tmp 25) rfl gN (R8 s7) rfl rfl 121 _ (RU.out.at_ (.head _)) (aC _) (by rw[bZ,bZ]) (fi _) ?_;refine hK _ _ ⟨.inl (by decide),?_⟩;clear hK K;refine ak ?_;have hf:=RU.out.set s7;exact hT _ _ hf
   go_wp2_with fail;refine⟨(bM _ _),?_⟩;obtain⟨wN,dL⟩:∃Y,Y=(W1.alloc (.cells #[.int .u32 0,.int .u32 0,.int .u32 0,.int .u32 0,.int .u32 0,.int .u32 0,.int .u32 0,.int .u32 0] 121)).drew:=⟨_,rfl⟩
   obtain⟨gN,ki⟩:∃Y,Y=W1.heap.size:=⟨_,rfl⟩;have HN:Hid (LA w wN G z24 ((gN,0)::[(gp,al),(G,x)])):=aa (by rw[dL,ki,←HZ8.out];exact(nH.out.new 0).below (af5 _ _).drew);rw[←dL,←ki];clear dL ki;refine ae rfl rfl (fun K hK=>?_);go_wp2_with fail;refine(Fq.out _).mono ?_;rintro e wc0 ⟨rfl,iu⟩;have HC0:=aa (HN.out.below iu);go_wp2_with fail;refine⟨.inr (aj iu),?_⟩;refine ae rfl rfl (fun K hK=>?_);go_wp2_with fail;refine(sS.out _).mono ?_;rintro e wc1 ⟨rfl,dW⟩;have HC1:=aa (HC0.out.below dW);go_wp2_with fail;refine⟨.inr (aj dW),?_⟩;refine ae rfl rfl (fun K hK=>?_);go_wp2_with fail;refine(Fs.out _).mono ?_;rintro e wc2 ⟨rfl,ez⟩;have RU:=aa (HC1.out.below ez);go_wp2_with fail;refine⟨.inr (aj ez),?_⟩;refine ae rfl rfl (fun K hK=>?_);refine agC 121 (.tmp 7) (.tmp 25) rfl gN (R8 s7) rfl rfl 121 _ (RU.out.at_ (.head _)) (aC _) (by rw[bZ,bZ]) (fi _) ?_;refine hK _ _ ⟨.inl (by decide),?_⟩;clear hK K;refine ak ?_;have hf:=RU.out.set s7;exact hT _ _ hf
 intro gs wE hf;clear Fq sS Fs nH;obtain⟨ge,yE⟩:=ab wE.heap.size;obtain⟨W2,il⟩:=ab (wE.alloc (.cells (R8 al) 121));have HE:=aa hf;have FR:Hid (LA w W2 G z24 [(ge,al),(gs,s7),(gp,al),(G,x)]):=aa (by rw[il,yE];exact hf.new al);have HW2:=aa il;have Hge:=aa yE;clear hf yE il;go_wp2_with (first|(refine aga rfl 121 (.tmp 6) rfl gp rfl 121 (R8 al) (0,0) _ (HE.out.at_ (.tail _ (.head _))) Tryz.underlying121 rfl (aC _) ?_)|(refine af6 rfl 121 (.tmp 8) (.tmp 26) rfl wE.heap.size (R8 al) rfl rfl 121 _ (af4 wE _) (aC _) (by rw[bZ];rfl) (fi _) ?_;rw[agi];refine(show W2=_ from HW2.out)▸?_));rw[←Hge.out];clear HE HW2 Hge;go_loopw [9,10] (fun cv iv wr=>∃i:Nat,i≤8∧iv=.int .i64 i∧((i=0∧cv=.int .u32 1∧wr.heap[ge]?=some (.cells (cL (nu 8 al)).toArray 121 (0,0)))∨(1≤i∧cv=.int .u32 0∧wr.heap[ge]?=some (.cells (cL (nu 8 (al+1))).toArray 121 (0,0))))∧W2.grownBy wr (some ge)) (fun _ iv _=>8-(intOf iv).toNat)
 case atStart=>exact⟨0,by omega,rfl,.inl ⟨rfl,rfl,FR.out.at_ (.head _)⟩,cV _ _⟩
 case round=>
  obtain⟨i,hi,rfl,p7,hg⟩:=hrel
  by_cases aL:i<8
  · rcases p7 with ⟨rfl,rfl,gE⟩|⟨hi1,rfl,gE⟩
    · have cE:=cO gE (k:=0) (by rw[aS];decide)
      rw[show (nu 8 al)[0]'(by rw[aS];decide)=4294966319 from by decide+kernel] at cE
      have zE:=bV gE 0;have GE:=aa gE;have Hg:=aa hg;clear gE hg;go_wp2_with fail;have kn:(nu 8 al).set 0 4294966320=nu 8 (al+1):=by decide+kernel
      exact⟨⟨1,by omega,rfl,.inr ⟨by omega,rfl,by rw[←kn];exact kF GE.out⟩,be Hg.out _ _⟩,by simp only[intOf];omega⟩
    have hiP:i<(nu 8 (al+1)).length:=by rw[aS];exact aL
    obtain⟨v,hv⟩:∃v,v=(nu 8 (al+1))[i]:=⟨_,rfl⟩;have afJ:v<4294967296:=by rw[hv];exact np _ _ _ (agl _)
    have cE:=cO gE hiP;rw[←hv] at cE;have zE:=bV gE i;have GE:=aa gE;have Hg:=aa hg;have vL:Hid ((nu 8 (al+1)).set i v=nu 8 (al+1)):=aa (by rw[hv];exact List.set_getElem_self _);clear gE hg hv hiP;go_wp2_with fail;exact⟨⟨i+1,by omega,by go_num,.inr ⟨by omega,rfl,by rw[←vL.out];exact kF GE.out⟩,be Hg.out _ _⟩,by simp only[intOf];omega⟩
  obtain rfl:i=8:=by omega
  rcases p7 with ⟨h0,_⟩|⟨_,rfl,gE⟩
  · omega
  have GE:=aa gE;have Hg:=aa hg;clear gE hg;go_wp2_with fail;go_loopw [12] (fun kv wr=>∃(k V:Nat),k≤2∧kv=.int .i64 k∧Hid (V=(al+1)/2^k)∧wr.heap[ge]?=some (.cells (cL (nu 8 V)).toArray 121 (0,0))∧W2.grownBy wr (some ge)) (fun kv _=>2-(intOf kv).toNat)
  case atStart=>exact⟨0,_,by omega,rfl,aa rfl,by rw[Nat.pow_zero,Nat.div_one];exact GE.out,Hg.out⟩
  case round=>
   clear GE Hg;obtain⟨k,V,hk,rfl,HV,gE,hg⟩:=hrel
   by_cases hltk:k<2
   · have Wr:V<2^256:=by rw[HV.out];exact Nat.lt_of_le_of_lt (Nat.div_le_self _ _) (by decide+kernel)
     have Xm:=aa Wr;have GE:=aa gE;have Hg:=aa hg;clear gE hg Wr;go_wp2_with fail;go_loopw [13] (fun iv wc=>∃i:Nat,i≤8∧iv=.int .i64 i∧wc.heap[ge]?=some (.cells (cL (EG V i)).toArray 121 (0,0))∧W2.grownBy wc (some ge)) (fun iv _=>8-(intOf iv).toNat)
     case atStart=>exact⟨0,by omega,rfl,by rw[QG];exact GE.out,Hg.out⟩
     case round=>
      clear GE Hg;obtain⟨i,hi,rfl,gE,hg⟩:=hrel
      by_cases ZV:i<8
      · have ZC:i<(EG V i).length:=by rw[xS _ _ hi];exact ZV
        obtain⟨a,ha⟩:∃a,a=V/2^(32*i)%4294967296:=⟨_,rfl⟩;have cE:=cO gE ZC;rw[QI V i i (af2 _) ZV,←ha] at cE;have zE:=bV gE i;obtain⟨h,hh⟩:∃h,h=a/2:=⟨_,rfl⟩;have hhI:(a:Int)/2=(h:Int):=by rw[hh];omega
        have afK:h<2147483648:=by omega
        have jY:=kF (k:=i) (v:=h) gE;have Jw:=aa (En V i);rw[←ha,←hh] at Jw;have uu:=aa (Ux V i h ZV);have Hg:=aa hg;have GE:=aa gE;have c2:=cO jY (k:=i) (by rw[List.length_set];exact ZC);rw[List.getElem_set_self] at c2;have z2:=bV jY i;have PQ:=aa jY
        by_cases h7:i<7
        · have hd7:decide ((i:Int)<7)=true:=af9 (by omega)
          have ab9:i+1<((EG V i).set i h).length:=by rw[List.length_set,xS _ _ hi];omega
          obtain⟨b,hb⟩:∃b,b=V/2^(32*(i+1))%4294967296:=⟨_,rfl⟩;have afL:b<4294967296:=by rw[hb];exact Nat.mod_lt _ (by decide)
          have c3:=cO jY ab9;rw[List.getElem_set_ne (by omega),QI V i (i+1) (by omega) (by omega),←hb] at c3;rw[←hb] at Jw;clear ha hh hb ZC ab9 gE hg jY
          by_cases uD:b%2=1
          · have hoI:(b:Int)%2=1:=by omega
            have HF:Hid (V/2/2^(32*i)%4294967296=h+2147483648):=aa (by rw[Jw.out,if_pos uD]);clear uD;go_wp2_with fail;go_simp;exact⟨⟨i+1,by omega,by go_num,by rw[←uu.out,HF.out];exact kF PQ.out,be (be Hg.out _ _) _ _⟩,by simp only[intOf];omega⟩
          have hoI:(b:Int)%2=0:=by omega
          have HF:Hid (V/2/2^(32*i)%4294967296=h):=aa (by rw[Jw.out,if_neg uD];rfl);clear uD;go_wp2_with fail;go_simp;exact⟨⟨i+1,by omega,by go_num,by rw[←uu.out,HF.out,List.set_set];exact PQ.out,be Hg.out _ _⟩,by simp only[intOf];omega⟩
        obtain rfl:i=7:=by omega
        have HF:Hid (V/2/2^(32*7)%4294967296=h):=aa (by rw[QJ V Xm.out,←ha,←hh]);clear ha hh ZC gE hg jY h7;go_wp2_with fail;go_simp;exact⟨⟨8,by omega,rfl,by rw[←uu.out,HF.out,List.set_set];exact PQ.out,be Hg.out _ _⟩,by simp only[intOf];omega⟩
      obtain rfl:i=8:=by omega
      rw[QH] at gE;have GE:=aa gE;have Hg:=aa hg;clear gE hg;go_wp2_with fail;exact⟨⟨k+1,V/2,by omega,by go_num,aa (by rw[HV.out,Nat.div_div_eq_div_mul,Nat.pow_succ]),GE.out,Hg.out⟩,by simp only[intOf];omega⟩
   obtain rfl:k=2:=by omega
   obtain rfl:V=E:=HV.out.trans HEv.out.symm;have qC:Hid (LA w wr G z24 [(ge,V),(gs,s7),(gp,al),(G,x)]):=aa (FR.out.grown hg gE);clear gE hg HV;go_wp2_with (first|(refine aga rfl 121 (.tmp 7) rfl gs rfl 121 (R8 s7) (0,0) _ (qC.out.at_ (.tail _ (.head _))) Tryz.underlying121 rfl (aC _) ?_)|(refine aga rfl 121 (.tmp 8) rfl ge rfl 121 (R8 V) (0,0) _ (qC.out.at_ (.head _)) Tryz.underlying121 rfl (aC _) ?_)|(refine aga rfl 121 (.tmp 6) rfl gp rfl 121 (R8 al) (0,0) _ (qC.out.at_ (.tail _ (.tail _ (.head _)))) Tryz.underlying121 rfl (aC _) ?_));refine(HPw.out _).mono ?_;rintro e w4 ⟨rfl,dn⟩;have VP:=aa (qC.out.below dn);obtain⟨gy,hgy⟩:=ab w4.heap.size;obtain⟨W5,xP⟩:=ab (w4.alloc (.cells (R8 y) 121));have EF:Hid (LA w W5 G z24 [(gy,y),(ge,V),(gs,s7),(gp,al),(G,x)]):=aa (by rw[xP,hgy];exact VP.out.new y);have Ur:=aa xP;have Hgy:=aa hgy;clear dn hgy xP qC HPw;go_wp2_with (refine af6 rfl 121 (.tmp 14) (.tmp 79) rfl w4.heap.size (R8 y) rfl rfl 121 _ (af4 w4 _) (aC _) (by rw[bZ];rfl) (fi _) ?_;rw[agi];refine(show W5=_ from Ur.out)▸?_);rw[←Hgy.out];clear Ur Hgy VP w4;refine an [(0,1),(1,1),(2,1),(4,1),(3,2),(5,0)] 6 bW (by kernel_rfl) (by intro c a d v w h;cases d<;>exact h) ?_;refine aX rfl rfl 121 (.tmp 14) rfl gy rfl 121 (R8 y) (0,0) _ (EF.out.at_ (.head _)) Tryz.underlying121 rfl (aC _) ?_;refine aX rfl rfl 121 (.tmp 14) rfl gy rfl 121 (R8 y) (0,0) _ (EF.out.at_ (.head _)) Tryz.underlying121 rfl (aC _) ?_;refine aX rfl rfl 121 (.tmp 6) rfl gp rfl 121 (R8 al) (0,0) _ (EF.out.at_ (.tail _ (.tail _ (.tail _ (.head _))))) Tryz.underlying121 rfl (aC _) ?_;refine aX rfl rfl 121 (.tmp 7) rfl gs rfl 121 (R8 s7) (0,0) _ (EF.out.at_ (.tail _ (.tail _ (.head _)))) Tryz.underlying121 rfl (aC _) ?_;refine ae rfl rfl (fun K hK=>?_);go_wp2_with fail;refine(HY2.out _).mono ?_;rintro e w6 ⟨rfl,fv⟩;have qN:=aa ((EF.out.below (af5 _ _).drew).below fv);go_wp2_with fail;refine⟨.inr (aj fv),?_⟩;refine xG .neq (.tmp 83) (.tmp 84) 121 _ _ .u32 8 ((nu 8 y2).map (fun n:Nat=>(n:Int))) ((nu 8 s7).map (fun n:Nat=>(n:Int))) (!decide (y2=s7)) rfl rfl rfl (congrArg Value.agg (QK y2)) (congrArg Value.agg (QK s7)) Tryz.underlying121 Tryz.underlying55 (by kernel_rfl) (by kernel_rfl) (by kernel_rfl) (by rw[List.length_map,aS]) (by rw[List.length_map,aS]) (.inr ⟨rfl,by rw[BJ aeg.out Hls.out]⟩) ?_
   repeat ((first|refine ag rfl fun K hK=>?_|refine af rfl fun K hK=>?_);go_simp;(first|refine hK _ ?_|(simp only[IntWalk.iteOmega];go_simp;refine hK _ ?_)|(go_bits;go_simp;refine hK _ ?_));clear hK K;try go_bits)
   refine ak ?_;clear fv EF HY2
   by_cases Gd:y2=s7
   · rw[af9 Gd]
     have Hc:Hid (eL x=true):=aa (by rw[Vw.out,af9 Gd]);clear Gd Vw;obtain⟨q,hq⟩:∃q,q=(nu 8 y)[0]'(by rw[aS];decide):=⟨_,rfl⟩
     have cY:=cO (qN.out.at_ (.head _)) (k:=0) (by rw[aS];decide);rw[←hq] at cY;have afM:q<4294967296:=by rw[hq];exact np _ _ _ (agl _)
     clear hq;have iQ:∀(W:World) (u:Nat),LA w W G z24 [(gy,u),(ge,V),(gs,s7),(gp,al),(G,x)]→True:=fun _ _ _=>trivial
     clear iQ
     cases odd
     · by_cases hpar:q%2=1
       · have Wh:(q:Int)%2=1:=by omega
         clear hpar;go_wp2_with (first|(refine aga rfl 121 (.tmp 14) rfl gy rfl 121 (R8 y) (0,0) _ (qN.out.at_ (.head _)) Tryz.underlying121 rfl (aC _) ?_)|(refine aga rfl 121 (.tmp 6) rfl gp rfl 121 (R8 al) (0,0) _ (qN.out.at_ (.tail _ (.tail _ (.tail _ (.head _))))) Tryz.underlying121 rfl (aC _) ?_));refine(HSub.out _).mono ?_;rintro e w7 ⟨⟨u,rfl⟩,kR⟩;have yr:=aa (qN.out.below kR);have uM:=aa (yr.out.set u);obtain⟨W8,uX⟩:=ab (w7.setRow gy (R8 u));rw[←uX] at uM;have UA:=aa uX;clear kR uX cY Wh;go_wp2_with (first|(refine af6 rfl 121 (.tmp 14) (.tmp 96) rfl gy (R8 u) rfl rfl 121 _ (yr.out.at_ (.head _)) (aC _) (by rw[bZ,bZ]) (fi _) ?_;refine(show W8=_ from UA.out)▸?_)|(refine aga rfl 121 (.tmp 2) rfl G rfl 121 (R8 x) (0,0) _ (uM.out.at_ (.tail _ (.tail _ (.tail _ (.tail _ (.head _)))))) Tryz.underlying121 rfl (aC _) ?_)|(refine aga rfl 121 (.tmp 14) rfl gy rfl 121 (R8 u) (0,0) _ (uM.out.at_ (.head _)) Tryz.underlying121 rfl (aC _) ?_)|((with_reducible refine bQ ?_ 123 #[(0,.tmp 97),(1,.tmp 98),(2,.tmp 99)] ?_ (uy x u) ?_ ?_);rfl;rfl;rw[←vh x u,HO8.out];rfl)|(refine af6 rfl 123 (.tmp 4) (.tmp 100) rfl (G+1) (uy x u) rfl rfl 123 _ uM.out.rr (by rw[dS];kernel_rfl) (by rw[dS];rfl) (lp _ _) ?_))
         refine agf (v:=.tuple #[.agg (uy x u),.bool true]) ?_ rfl ⟨uy x u,by rw[Hc.out],dS _ _,lp _ _,ah uM.out.hb (by have:=uM.out.hG;omega) _⟩
         exact ai rfl _ _ (G+1) 123 (uy x u) (0,0) _ rfl (agd _ _ _ _ _ _ uM.out.rr) _ rfl Tryz.underlying123 rfl (by rw[dS];kernel_rfl)
       have Wh:(q:Int)%2=0:=by omega
       clear hpar;go_wp2_with (first|(refine aga rfl 121 (.tmp 2) rfl G rfl 121 (R8 x) (0,0) _ (qN.out.at_ (.tail _ (.tail _ (.tail _ (.tail _ (.head _)))))) Tryz.underlying121 rfl (aC _) ?_)|(refine aga rfl 121 (.tmp 14) rfl gy rfl 121 (R8 y) (0,0) _ (qN.out.at_ (.head _)) Tryz.underlying121 rfl (aC _) ?_)|((with_reducible refine bQ ?_ 123 #[(0,.tmp 97),(1,.tmp 98),(2,.tmp 99)] ?_ (uy x y) ?_ ?_);rfl;rfl;rw[←vh x y,HO8.out];rfl)|(refine af6 rfl 123 (.tmp 4) (.tmp 100) rfl (G+1) (uy x y) rfl rfl 123 _ qN.out.rr (by rw[dS];kernel_rfl) (by rw[dS];rfl) (lp _ _) ?_))
       refine agf (v:=.tuple #[.agg (uy x y),.bool true]) ?_ rfl ⟨uy x y,by rw[Hc.out],dS _ _,lp _ _,ah qN.out.hb (by have:=qN.out.hG;omega) _⟩
       exact ai rfl _ _ (G+1) 123 (uy x y) (0,0) _ rfl (agd _ _ _ _ _ _ qN.out.rr) _ rfl Tryz.underlying123 rfl (by rw[dS];kernel_rfl)
     by_cases hpar:q%2=1
     · have Wh:(q:Int)%2=1:=by omega
       clear hpar;go_wp2_with (first|(refine aga rfl 121 (.tmp 2) rfl G rfl 121 (R8 x) (0,0) _ (qN.out.at_ (.tail _ (.tail _ (.tail _ (.tail _ (.head _)))))) Tryz.underlying121 rfl (aC _) ?_)|(refine aga rfl 121 (.tmp 14) rfl gy rfl 121 (R8 y) (0,0) _ (qN.out.at_ (.head _)) Tryz.underlying121 rfl (aC _) ?_)|((with_reducible refine bQ ?_ 123 #[(0,.tmp 97),(1,.tmp 98),(2,.tmp 99)] ?_ (uy x y) ?_ ?_);rfl;rfl;rw[←vh x y,HO8.out];rfl)|(refine af6 rfl 123 (.tmp 4) (.tmp 100) rfl (G+1) (uy x y) rfl rfl 123 _ qN.out.rr (by rw[dS];kernel_rfl) (by rw[dS];rfl) (lp _ _) ?_))
       refine agf (v:=.tuple #[.agg (uy x y),.bool true]) ?_ rfl ⟨uy x y,by rw[Hc.out],dS _ _,lp _ _,ah qN.out.hb (by have:=qN.out.hG;omega) _⟩
       exact ai rfl _ _ (G+1) 123 (uy x y) (0,0) _ rfl (agd _ _ _ _ _ _ qN.out.rr) _ rfl Tryz.underlying123 rfl (by rw[dS];kernel_rfl)
     have Wh:(q:Int)%2=0:=by omega
     clear hpar;go_wp2_with (first|(refine aga rfl 121 (.tmp 14) rfl gy rfl 121 (R8 y) (0,0) _ (qN.out.at_ (.head _)) Tryz.underlying121 rfl (aC _) ?_)|(refine aga rfl 121 (.tmp 6) rfl gp rfl 121 (R8 al) (0,0) _ (qN.out.at_ (.tail _ (.tail _ (.tail _ (.head _))))) Tryz.underlying121 rfl (aC _) ?_));refine(HSub.out _).mono ?_;rintro e w7 ⟨⟨u,rfl⟩,kR⟩;have yr:=aa (qN.out.below kR);have uM:=aa (yr.out.set u);obtain⟨W8,uX⟩:=ab (w7.setRow gy (R8 u));rw[←uX] at uM;have UA:=aa uX;clear kR uX cY Wh;go_wp2_with (first|(refine af6 rfl 121 (.tmp 14) (.tmp 96) rfl gy (R8 u) rfl rfl 121 _ (yr.out.at_ (.head _)) (aC _) (by rw[bZ,bZ]) (fi _) ?_;refine(show W8=_ from UA.out)▸?_)|(refine aga rfl 121 (.tmp 2) rfl G rfl 121 (R8 x) (0,0) _ (uM.out.at_ (.tail _ (.tail _ (.tail _ (.tail _ (.head _)))))) Tryz.underlying121 rfl (aC _) ?_)|(refine aga rfl 121 (.tmp 14) rfl gy rfl 121 (R8 u) (0,0) _ (uM.out.at_ (.head _)) Tryz.underlying121 rfl (aC _) ?_)|((with_reducible refine bQ ?_ 123 #[(0,.tmp 97),(1,.tmp 98),(2,.tmp 99)] ?_ (uy x u) ?_ ?_);rfl;rfl;rw[←vh x u,HO8.out];rfl)|(refine af6 rfl 123 (.tmp 4) (.tmp 100) rfl (G+1) (uy x u) rfl rfl 123 _ uM.out.rr (by rw[dS];kernel_rfl) (by rw[dS];rfl) (lp _ _) ?_))
     refine agf (v:=.tuple #[.agg (uy x u),.bool true]) ?_ rfl ⟨uy x u,by rw[Hc.out],dS _ _,lp _ _,ah uM.out.hb (by have:=uM.out.hG;omega) _⟩
     exact ai rfl _ _ (G+1) 123 (uy x u) (0,0) _ rfl (agd _ _ _ _ _ _ uM.out.rr) _ rfl Tryz.underlying123 rfl (by rw[dS];kernel_rfl)
   rw[af8 Gd];have Hc:Hid (eL x=false):=aa (by rw[Vw.out,af8 Gd]);clear Gd Vw;go_wp2_with (refine af6 rfl 123 (.tmp 4) (.tmp 86) rfl (G+1) z24 rfl rfl 123 _ qN.out.rr (by kernel_rfl) rfl (by kernel_rfl) ?_);refine agf (v:=.tuple #[.agg z24,.bool false]) ?_ rfl ⟨z24,by rw[Hc.out],rfl,by kernel_rfl,ah qN.out.hb (by have:=qN.out.hG;omega) _⟩
   exact ai rfl _ _ (G+1) 123 z24 (0,0) _ rfl (agd _ _ _ _ _ _ qN.out.rr) _ rfl Tryz.underlying123 rfl (by kernel_rfl)
theorem uz (A:Option Addr) (c:Nat) (bs:List UInt8) (hc:bs.length≤c) (w:World) (hs:Sl w w.heap.size A (B8 bs)):
 Calls Tryz.prog 74 #[.slice A bs.length c] w fun e W'=>∃pt:Array Value,e=.returned (.tuple #[.agg pt,.bool (iE bs)])∧pt.size=24∧pt.all (·.oneCell')=true∧Below w.heap.size w W':=by
 have bW:Tryz.prog.follows .mixedOrders=true:=by kernel_rfl
 obtain⟨P,hP⟩:=ab (iE bs);rw[←hP];have HP:=aa hP;obtain⟨n,hn⟩:=ab bs.length;rw[←hn] at hc⊢;have Hn:=aa hn;have Hs:=aa hs;clear hP hn hs;obtain⟨G,hG⟩:=ab w.heap.size;have aF:=af4 w (.cells z24 123);obtain⟨W0,aM⟩:=ab (w.alloc (.cells z24 123));rw[←aM,←hG] at aF;have bL:Below w.heap.size w W0:=by rw[aM];exact(af5 _ w).alloc (af2 _) _
 unfold z24 at aM;have gJ:=aa aM;have HG:=aa hG;have eC:=aa aF;have dh:=aa bL;clear aM hG aF bL
 by_cases h33:n=33
 · subst h33
   have vQ:bs.length=33:=Hn.out.symm
   obtain⟨h,t,Nd⟩:∃h t,bs=h::t:=by
    cases bs with
    |nil=>simp at vQ
    |cons h t=>exact⟨h,t,rfl⟩
   subst Nd;have ht:t.length=32:=by simpa using vQ
   obtain⟨b0,o0,rfl,bL,aD⟩:=Hs.out.at_ (k:=0) (by simp);have c0:w.cell? ⟨b0,o0,none⟩=some (.int .u8 (h.toNat:Int)):=aD 0 (by simp)
   have cW:Sl w w.heap.size (some ⟨b0,o0+1,none⟩) (B8 t):=by
    have h1:=Hs.out.cut (k:=1) (m:=32) (cap:=c) (by rw[B8_length,vQ];omega) (by rw[B8_length,vQ];exact hc);rw[if_neg (by omega)] at h1
    have e1:((B8 (h::t)).drop 1).take 32=B8 t:=by
     rw[show (B8 (h::t)).drop 1=B8 t from rfl,af7 (by rw[B8_length,ht];exact af2 _)]
    rw[e1] at h1;exact h1
   have Ws:w.heap.size≤W0.heap.size:=dh.out.size;have c1:W0.cell? ⟨b0,o0,none⟩=some (.int .u8 (h.toNat:Int)):=(dh.out.cell (p:=⟨b0,o0,none⟩) bL).trans c0;have eg:=aa ((cW.below dh.out).mono Ws);have su:Hid (P=(decide (t.length=32)&&(decide (h=2)||decide (h=3))&&decide (dY t<al)&&eL (dY t))):=aa (by rw[HP.out,kr]);obtain⟨X,hX⟩:=ab (dY t);have rD:X<2^256:=by rw[hX];exact agq (lE t) (by rw[ht];decide)
   have RM:=aa (fun (W:World) (Rw:Sl W W.heap.size (some ⟨b0,o0+1,none⟩) (B8 t))=>P9 (some ⟨b0,o0+1,none⟩) (c-1) t ht W Rw);rw[←hX] at RM su;have HL:=aa (fun W=>sa X al rD fw W);have Vx:=aa (fun W=>Mc X (decide (h=3)) rD W);have mF:decide (t.length=32)=true:=af9 ht;rw[mF,Bool.true_and] at su;have aeh:=aa bL;obtain⟨q,hq⟩:∃q:Nat,q=h.toNat:=⟨_,rfl⟩;have aeP:q<256:=by rw[hq];exact h.toNat_lt
   have e2:decide (h=2)=decide (q=2):=by
    rw[hq]
    by_cases hh:h=2
    · subst hh;rfl
    rw[af8 hh,af8 (fun e=>hh (UInt8.toNat_inj.1 (by rw[e];rfl)))]
   have e3:decide (h=3)=decide (q=3):=by
    rw[hq]
    by_cases hh:h=3
    · subst hh;rfl
    rw[af8 hh,af8 (fun e=>hh (UInt8.toNat_inj.1 (by rw[e];rfl)))]
   rw[e3] at Vx;rw[e2,e3] at su;rw[←hq] at c1;clear hX rD mF e2 e3 aD c0 cW vQ bL ht hq Ws
   by_cases SV:q=2∨q=3
   · have Kh:Hid ((decide (q=2)||decide (q=3))=true):=aa (by rcases SV with rfl|rfl<;>rfl)
     rw[Kh.out,Bool.true_and] at su;have c1r:=c1;rw[gJ.out] at c1r;have C1:=aa c1;have aca:Hid (b0<W0.heap.size):=aa (agq aeh.out dh.out.size);clear c1;go_enter Tryz.func74,Tryz.ntmps74;rcases SV with rfl|rfl
     · skip
       rw[show decide ((2:Nat)=3)=false from rfl] at Vx;go_wp2_with fail;refine(show W0=_ from gJ.out)▸?_;refine(RM.out W0 eg.out).mono ?_;rintro e w2 ⟨rfl,bt⟩;go_wp2_with fail;refine(GD w2).mono ?_;rintro e w3 ⟨rfl,bd⟩;have rf:=bt.trans (bd.mono bt.size);go_wp2_with fail;refine(HL.out w3).mono ?_;rintro e w4 ⟨rfl,dn⟩;have lD:=rf.trans (dn.mono rf.size);have sz:=aa (dh.out.trans (lD.mono dh.out.size));have ic:=aa ((lD.block G (aJ eC.out)).trans eC.out);have ZW:=aa ((eg.out.below lD).mono lD.size);have c4:=(lD.cell (p:=⟨b0,o0,none⟩) aca.out).trans C1.out;have HGw:Hid (w.heap.size≤G):=aa (by rw[HG.out];exact af2 _);rw[←HG.out];clear bt bd rf dn lD c1r
       by_cases aL:X<al
       · rw[af9 aL]
         have HPv:Hid (P=eL X):=aa (by rw[su.out,af9 aL,Bool.true_and]);clear aL su;go_wp2_with fail;refine an [(0,0),(1,0),(3,0),(4,0),(5,1),(6,0),(2,2),(7,2),(8,0),(9,0),(10,2),(11,2)] 10 bW (by kernel_rfl) (by intro c a d v w h;cases d<;>exact h) ?_
         repeat ((first|refine ag rfl fun K hK=>?_|refine af rfl fun K hK=>?_);go_simp;(first|refine hK _ ?_|(simp only[IntWalk.iteOmega];go_simp;refine hK _ ?_)|(go_bits;go_simp;refine hK _ ?_));clear hK K;try go_bits)
         refine ae rfl rfl (fun K hK=>?_);go_wp2_with fail;refine(RM.out _ ZW.out.drew).mono ?_;rintro e w5 ⟨rfl,eh⟩;go_wp2_with fail;refine⟨.inr (aj eh),?_⟩;refine ae rfl rfl (fun K hK=>?_);go_wp2_with fail;refine(Vx.out _).mono ?_;rintro e w6 ⟨pt,rfl,iO,yf,fv⟩;have H7:Below w4.heap.size w4 w6:=(af5 w4.heap.size w4).drew.trans (eh.trans (fv.mono eh.size));have pO:=aa ((H7.block G (aJ ic.out)).trans ic.out);have Dz:=aa (sz.out.trans (H7.mono sz.out.size));have RV:=aa (show (Tryz.prog.info? 123).map (·.size)=some pt.size by rw[iO];kernel_rfl);have Mw:=aa yf;have rl:=aa iO;go_wp2_with fail;refine⟨.inr (aj fv),?_⟩;clear eh fv H7 iO yf
         repeat ((first|refine ag rfl fun K hK=>?_|refine af rfl fun K hK=>?_);go_simp;(first|refine hK _ ?_|(simp only[IntWalk.iteOmega];go_simp;refine hK _ ?_)|(go_bits;go_simp;refine hK _ ?_));clear hK K;try go_bits)
         refine ae rfl rfl (fun K hK=>?_);refine agC 123 (.tmp 2) (.tmp 36) rfl G pt rfl rfl 123 _ pO.out RV.out (by rw[rl.out];rfl) Mw.out ?_;refine hK _ _ ⟨.inl (by decide),?_⟩;clear hK K;refine ae rfl rfl (fun K hK=>?_);go_wp2_with fail;refine⟨.inl (by decide),?_⟩;refine ak ?_;go_wp2_with fail;refine agf (v:=.tuple #[.agg pt,.bool (eL X)]) ?_ rfl ⟨pt,by rw[HPv.out],rl.out,Mw.out,ah Dz.out HGw.out _⟩
         exact ai rfl _ _ G 123 pt (0,0) _ rfl (agd _ _ _ _ _ _ pO.out) _ rfl Tryz.underlying123 rfl RV.out
       rw[af8 aL];have ZX:Hid (P=false):=aa (by rw[su.out,af8 aL,Bool.false_and]);clear aL su;go_wp2_with (refine af6 rfl 123 (.tmp 2) (.tmp 27) rfl G z24 rfl rfl 123 _ ic.out (by kernel_rfl) rfl (by kernel_rfl) ?_);refine agf (v:=.tuple #[.agg z24,.bool false]) ?_ rfl ⟨z24,by rw[ZX.out],rfl,by kernel_rfl,ah sz.out HGw.out _⟩
       exact ai rfl _ _ G 123 z24 (0,0) _ rfl (agd _ _ _ _ _ _ ic.out) _ rfl Tryz.underlying123 rfl (by kernel_rfl)
     skip;rw[show decide ((3:Nat)=3)=true from rfl] at Vx;go_wp2_with fail;refine(show W0=_ from gJ.out)▸?_;refine(RM.out W0 eg.out).mono ?_;rintro e w2 ⟨rfl,bt⟩;go_wp2_with fail;refine(GD w2).mono ?_;rintro e w3 ⟨rfl,bd⟩;have rf:=bt.trans (bd.mono bt.size);go_wp2_with fail;refine(HL.out w3).mono ?_;rintro e w4 ⟨rfl,dn⟩;have lD:=rf.trans (dn.mono rf.size);have sz:=aa (dh.out.trans (lD.mono dh.out.size));have ic:=aa ((lD.block G (aJ eC.out)).trans eC.out);have ZW:=aa ((eg.out.below lD).mono lD.size);have c4:=(lD.cell (p:=⟨b0,o0,none⟩) aca.out).trans C1.out;have HGw:Hid (w.heap.size≤G):=aa (by rw[HG.out];exact af2 _);rw[←HG.out];clear bt bd rf dn lD c1r
     by_cases aL:X<al
     · rw[af9 aL]
       have HPv:Hid (P=eL X):=aa (by rw[su.out,af9 aL,Bool.true_and]);clear aL su;go_wp2_with fail;refine an [(0,0),(1,0),(3,0),(4,0),(5,1),(6,0),(2,2),(7,2),(8,0),(9,0),(10,2),(11,2)] 10 bW (by kernel_rfl) (by intro c a d v w h;cases d<;>exact h) ?_
       repeat ((first|refine ag rfl fun K hK=>?_|refine af rfl fun K hK=>?_);go_simp;(first|refine hK _ ?_|(simp only[IntWalk.iteOmega];go_simp;refine hK _ ?_)|(go_bits;go_simp;refine hK _ ?_));clear hK K;try go_bits)
       refine ae rfl rfl (fun K hK=>?_);go_wp2_with fail;refine(RM.out _ ZW.out.drew).mono ?_;rintro e w5 ⟨rfl,eh⟩;go_wp2_with fail;refine⟨.inr (aj eh),?_⟩;refine ae rfl rfl (fun K hK=>?_);go_wp2_with fail;refine(Vx.out _).mono ?_;rintro e w6 ⟨pt,rfl,iO,yf,fv⟩;have H7:Below w4.heap.size w4 w6:=(af5 w4.heap.size w4).drew.trans (eh.trans (fv.mono eh.size));have pO:=aa ((H7.block G (aJ ic.out)).trans ic.out);have Dz:=aa (sz.out.trans (H7.mono sz.out.size));have RV:=aa (show (Tryz.prog.info? 123).map (·.size)=some pt.size by rw[iO];kernel_rfl);have Mw:=aa yf;have rl:=aa iO;go_wp2_with fail;refine⟨.inr (aj fv),?_⟩;clear eh fv H7 iO yf
       repeat ((first|refine ag rfl fun K hK=>?_|refine af rfl fun K hK=>?_);go_simp;(first|refine hK _ ?_|(simp only[IntWalk.iteOmega];go_simp;refine hK _ ?_)|(go_bits;go_simp;refine hK _ ?_));clear hK K;try go_bits)
       refine ae rfl rfl (fun K hK=>?_);refine agC 123 (.tmp 2) (.tmp 36) rfl G pt rfl rfl 123 _ pO.out RV.out (by rw[rl.out];rfl) Mw.out ?_;refine hK _ _ ⟨.inl (by decide),?_⟩;clear hK K;refine ae rfl rfl (fun K hK=>?_);go_wp2_with fail;refine⟨.inl (by decide),?_⟩;refine ak ?_;go_wp2_with fail;refine agf (v:=.tuple #[.agg pt,.bool (eL X)]) ?_ rfl ⟨pt,by rw[HPv.out],rl.out,Mw.out,ah Dz.out HGw.out _⟩
       exact ai rfl _ _ G 123 pt (0,0) _ rfl (agd _ _ _ _ _ _ pO.out) _ rfl Tryz.underlying123 rfl RV.out
     rw[af8 aL];have ZX:Hid (P=false):=aa (by rw[su.out,af8 aL,Bool.false_and]);clear aL su;go_wp2_with (refine af6 rfl 123 (.tmp 2) (.tmp 27) rfl G z24 rfl rfl 123 _ ic.out (by kernel_rfl) rfl (by kernel_rfl) ?_);refine agf (v:=.tuple #[.agg z24,.bool false]) ?_ rfl ⟨z24,by rw[ZX.out],rfl,by kernel_rfl,ah sz.out HGw.out _⟩
     exact ai rfl _ _ G 123 z24 (0,0) _ rfl (agd _ _ _ _ _ _ ic.out) _ rfl Tryz.underlying123 rfl (by kernel_rfl)
   have hq2:¬q=2:=fun h=>SV (.inl h)
   have ZG:¬q=3:=fun h=>SV (.inr h)
   have ZX:Hid (P=false):=aa (by rw[su.out,af8 hq2,af8 ZG];rfl);have i2:((q:Int)!=2)=true:=by simp;omega
   have i3:((q:Int)!=3)=true:=by simp;omega
   have c1r:=c1;rw[gJ.out] at c1r;clear SV hq2 ZG Vx HL RM su c1;go_enter Tryz.func74,Tryz.ntmps74;go_wp2_with (refine af6 rfl 123 (.tmp 2) (.tmp 27) rfl w.heap.size z24 rfl rfl 123 _ (af4 w _) (by kernel_rfl) rfl (by kernel_rfl) ?_);rw[agi];refine agf (v:=.tuple #[.agg z24,.bool false]) ?_ rfl ⟨z24,by rw[ZX.out],rfl,by kernel_rfl,(af5 _ _).alloc (af2 _) _⟩
   exact ai rfl _ _ w.heap.size 123 z24 (0,0) _ rfl (af4 w _) _ rfl Tryz.underlying123 rfl (by kernel_rfl)
 have ZX:Hid (P=false):=aa (by
  rw[HP.out];have dt:bs.length≠33:=fun e=>h33 (Hn.out.trans e)
  cases bs with
  |nil=>rfl
  |cons h t=>rw[kr,af8 (show¬t.length=32 from fun e=>dt (by simp[e]))];rfl)
 have hd:((n:Int)!=33)=true:=by simp;omega
 go_enter Tryz.func74,Tryz.ntmps74;go_wp2_with (refine af6 rfl 123 (.tmp 2) (.tmp 27) rfl w.heap.size z24 rfl rfl 123 _ (af4 w _) (by kernel_rfl) rfl (by kernel_rfl) ?_);rw[agi];refine agf (v:=.tuple #[.agg z24,.bool false]) ?_ rfl ⟨z24,by rw[ZX.out],rfl,by kernel_rfl,(af5 _ _).alloc (af2 _) _⟩
 exact ai rfl _ _ w.heap.size 123 z24 (0,0) _ rfl (af4 w _) _ rfl Tryz.underlying123 rfl (by kernel_rfl)
end Go.Proofs.YtcjioogololnoaaGreatDoor
