/- Whoever walks down with the secret signs what whoever walks down without it verifies, and the text of either walks the same way (StrongboxKeyed). No condition. -/
import Derived.Test.YtnlkdheaohocnaaGreatDoorU1
import Derived.Test.YtnlkdheaohocnaaGreatDoorU25
import Derived.Test.YtnlkdheaohocnaaGreatDoorU5
import Derived.Test.YtnlkdheaohocnaaGreatDoorU4
import Derived.Test.YtnlkdheaohocnaaGreatDoorU16
import Derived.Deep.DeepCutAuto
set_option maxRecDepth 1000000
set_option maxHeartbeats 16000000
set_option linter.unusedVariables false
set_option linter.unusedSimpArgs false
namespace Go.Proofs.YtnlkdheaohocnaaGreatDoor
open Go.RowKit Go.Shelf
def kM (m:Nat):Nat→List UInt8
 |0=>[]
 |k+1=>kM m k++[UInt8.ofNat (m/256^(16-1-k))]
theorem EO (m k:Nat):kM m (k+1)=kM m k++[UInt8.ofNat (m/256^(16-1-k))]:=rfl
theorem zj (m k:Nat):(kM m k).length=k:=by
 induction k with
 |zero=>rfl
 |succ k ih=>simp[kM,ih]
theorem wL (m:Nat) (h:m≤16384):kM m 16=List.replicate 8 0++q8 m 8:=by
 have e:∀k,8≤k→m/256^k=0:=fun k hk=>Nat.div_eq_of_lt (Nat.lt_of_le_of_lt h (ads (by decide) (Nat.pow_le_pow_right (by decide) hk)))
 have e8:kM m 8=List.replicate 8 0:=by
  simp only[kM,e _ (show 8≤16-1-0 by decide),e _ (show 8≤16-1-1 by decide),e _ (show 8≤16-1-2 by decide),e _ (show 8≤16-1-3 by decide),e _ (show 8≤16-1-4 by decide),e _ (show 8≤16-1-5 by decide),e _ (show 8≤16-1-6 by decide),e _ (show 8≤16-1-7 by decide)];rfl
 have h2:kM m 16=kM m 8++q8 m 8:=by simp[kM,q8,List.range,List.range.loop]
 rw[h2,e8]
theorem Jc (b:List UInt8) (f:Nat) (hl:b.length≤2048) (hf:f=127-(b.length%128+16)%128):b++128::List.replicate f 0++kM (b.length*8) 16=sI b:=by
 rw[wL _ (by omega),sI,mW,←hf,←List.replicate_append_replicate];simp
theorem Jd (A:Option Addr) (c:Nat) (b:List UInt8) (w:World) (hs:Sl w w.heap.size A (B8 b)) (hl:b.length≤2048) (jT:b.length≤c) (hc:c≤maxLen):
 Calls Tryz.prog 100 #[.slice A b.length c,.int .i64 128,.int .i64 16,.bool false] w fun e W'=>∃v,e=.returned v∧Ow W' w.heap.size 5 v (B8 (sI b))∧Below w.heap.size w W':=by
 have Hl:=ab hl;go_enter Tryz.func100,Tryz.ntmps100;go_wp2_with (first|(at_builtin;refine aX (m:=b.length) (c:=c) (base:=w.heap.size) (xs:=[]) (v:=.slice (some ⟨w.heap.size,0,none⟩) 0 0) (A:=A) (B:=w.heap.size) (news:=B8 b) lC rfl (.tmp 14) (.tmp 15) rfl rfl (Ow.nil_ _ _ _ _) rfl (hs.alloc (adi _) _) (B8_length _) (aR _) (by have:=Hl.out;simp[maxLen];omega) (by have:=Hl.out;simp;omega) (by simp) ?_;intro v1 w1 pf kq kS;have bH:=((adl _ w).alloc (adi _) (.cells #[] 5)).grown kq (by simp) (by simp[aY]);rw[adj] at pf;obtain⟨A1,c1,rfl,oT,AM⟩:=bw pf;clear kq kS)|(at_builtin;refine aX (m:=1) (c:=1) (base:=w.heap.size) (xs:=B8 b) (v:=.slice A1 b.length c1) (A:=some ⟨w1.heap.size,0,none⟩) (B:=w1.heap.size+1) (news:=[.int .u8 128]) lC rfl (.tmp 17) (.tmp 18) rfl rfl (pf.alloc _) rfl (Sl.one w1 _ _) rfl (by simp;rfl) (by have:=Hl.out;simp[maxLen];omega) (by have:=Hl.out;simp;omega) (by have:=bH.size;simp;omega) ?_;intro v2 w2 oU mw KP))
 have bS:=(bH.alloc bH.size (.cells #[.int .u8 128] 5)).grown mw (by have:=bH.size;simp;omega) (fun r hr=>(pf.row r hr).1)
 obtain⟨f,hf⟩:∃f,f=127-(b.length%128+16)%128:=⟨_,rfl⟩;go_loopw [9] (fun v wr=>∃z:Nat,z≤f∧Ow wr w.heap.size 5 v (B8 (b++128::List.replicate z 0))∧Below w.heap.size w wr) (fun v _=>b.length+1+f-Pq v)
 case atStart=>exact⟨0,adF _,by simpa [B8] using oU,bS⟩
 case round=>
  obtain⟨z,hz,ho,hb⟩:=hrel;obtain⟨X,hX⟩:∃X,X=b++128::List.replicate z 0:=⟨_,rfl⟩;have N6:X.length=b.length+1+z:=by rw[hX];simp;omega
  rw[←hX] at ho;obtain⟨Az,cz,rfl,lZ,abG⟩:=bw ho;obtain⟨N,hN⟩:=ae X.length;have JY:(B8 X).length=N:=by simp[hN]
  have hNl:N≤4096:=by omega
  rw[←hN] at ho lZ⊢
  by_cases aV:z<f
  · have Je:¬((N:Int)%128=112):=by omega
    have HN:=ab hN;have HX:=ab hX;have wO:=ab N6;clear hf hN hX N6;go_wp2_with (at_builtin;refine aX (m:=1) (c:=1) (base:=w.heap.size) (xs:=B8 X) (v:=.slice Az N cz) (A:=some ⟨wr.heap.size,0,none⟩) (B:=wr.heap.size+1) (news:=[.int .u8 0]) lC rfl (.tmp 28) (.tmp 29) rfl rfl (ho.alloc _) rfl (Sl.one wr _ _) rfl (by simp;rfl) (by rw[JY];simp[maxLen];omega) (by rw[JY];omega) (by have:=hb.size;simp;omega) ?_;intro v3 w3 iW lV vC);rw[jU X (.int .u8 0) 0 rfl,HX.out,List.append_assoc,adh,←List.replicate_succ'] at iW;refine⟨⟨z+1,aV,iW,ig hb (adi _) ho lV⟩,?_⟩;obtain⟨A3,c3,rfl,_,_⟩:=bw iW;have:=HN.out;have:=wO.out;simp only[Pq,adv,adz,List.length_replicate];omega
  have Je:(N:Int)%128=112:=by omega
  have Hf:=ab hf;have HN:=ab hN;have HX:=ab hX;clear hf hN hX N6;have hzf:z=f:=by omega
  go_wp2_with fail;clear Je;obtain⟨wx,hwx⟩:=ae wr;subst hwx;go_loopw [10,11,12] (fun m v i wr=>∃k:Nat,k≤16∧i=.int .i64 k∧m=.int .u64 ((b.length*8/256^k:Nat):Int)∧Ow wr wx.heap.size 5 v (B8 (uR (b.length*8) k))∧Below wx.heap.size wx wr) (fun _ _ i _=>16-(intOf i).toNat)
  case atStart=>
   refine⟨0,adF _,rfl,by simp,Ow.nil_ _ _ _ _,adl _ _⟩
  case round=>
   obtain⟨k,hk,rfl,rfl,rn,qP⟩:=hrel;obtain⟨Al,cl,rfl,gb,RU⟩:=bw rn;rw[nI] at rn gb⊢;obtain⟨q,hq⟩:∃q,q=b.length*8/256^k:=⟨_,rfl⟩;have VJ:q≤16384:=by rw[hq];exact Nat.le_trans (Nat.div_le_self _ _) (by omega)
   rw[←hq]
   by_cases aV:k<16
   · have Hq:=ab hq
     have hll:(B8 (uR (b.length*8) k)).length=k:=by simp[nI]
     obtain⟨L,hL⟩:=ae (uR (b.length*8) k);rw[←hL] at rn hll;have HL:=ab hL;have Hll:=ab hll;clear hq hL hll;go_wp2_with (at_builtin;refine aX (m:=1) (c:=1) (base:=wx.heap.size) (xs:=B8 L) (v:=.slice Al k cl) (A:=some ⟨wr.heap.size,0,none⟩) (B:=wr.heap.size+1) (news:=[.int .u8 ((q:Int)%256)]) lC rfl (.tmp 40) (.tmp 44) rfl rfl (rn.alloc _) rfl (Sl.one wr _ _) rfl (by simp;rfl) (by rw[Hll.out];simp[maxLen];omega) (by rw[Hll.out];omega) (by have:=qP.size;simp;omega) ?_;intro v3 w3 iW lV vC);rw[jU L _ (UInt8.ofNat q) (by simp),HL.out,Hq.out,←IK] at iW;refine⟨⟨k+1,aV,rfl,?_,iW,ig qP (adi _) rn lV⟩,by simp[intOf];omega⟩;rw[IL b.length k q Hq.out,Int.natCast_ediv,Int.natCast_mul,Int.natCast_pow];rfl
   have hk8:k=16:=by omega
   have Hk8:=ab hk8;have acU:16≤k:=by omega
   clear hk8;go_wp2_with fail;obtain⟨k2,pJ⟩:=ae k;subst pJ;obtain⟨wy,hwy⟩:=ae wr;subst hwy
   obtain⟨gl,Cu,rfl,VV,hLl,acV,vV⟩:∃gl Cu,Al=some ⟨gl,0,none⟩∧wx.heap.size≤gl∧wy.heap[gl]?=some (.cells Cu 5 (0,0))∧cl≤Cu.size∧Cu.toList.take 16=B8 (uR (b.length*8) 16):=by
    rw[Hk8.out] at rn gb;obtain⟨A',c',e,h1,h2,h3⟩:=rn;injection e with e1 e2 e3;obtain⟨g,cur,e4,h4,h5,h6,h7⟩:=h3 (by omega);rw[B8_length,nI] at h7;exact⟨g,cur,by rw[e1,e4],h4,h5,by omega,h7⟩
   have aS:∀j,j<16→Cu[j]?=some (.int .u8 ((b.length*8/256^j%256:Nat):Int)):=fun j hj=>by
    have h1:(Cu.toList.take 16)[j]?=_:=(congrArg (fun l=>l[j]?) vV).trans (Ml (b.length*8) 16 j hj);rw[List.getElem?_take,if_pos hj] at h1;simpa using h1
   have hoy:=ho.below qP (adi _);have Wd:=hb.trans (qP.mono hb.size);have hny:∀r,aY (.slice Az N cz)=some r→r≠gl:=fun r hr=>by have:=(ho.row r hr).2;omega
   have HLl:=ab hLl;have Hny:=ab hny;have nB:=ab aS;clear hny hLl aS vV hq;go_loopw [9,13] (fun v i wr=>∃k:Nat,k≤16∧i=.int .i64 k∧Ow wr w.heap.size 5 v (B8 (X++kM (b.length*8) k))∧Below w.heap.size w wr∧Hid (∀r,aY v=some r→r≠gl)∧Hid (wr.heap[gl]?=some (.cells Cu 5 (0,0)))) (fun _ i _=>16-(intOf i).toNat)
   case atStart=>exact⟨0,adF _,rfl,by simpa [kM] using hoy,Wd,Hny,HLl⟩
   case round=>
    obtain⟨k,hk,rfl,iW,b5,Hr3,Hg3⟩:=hrel
    by_cases aV:k<16
    · obtain⟨Y,hY⟩:∃Y,Y=X++kM (b.length*8) k:=⟨_,rfl⟩
      rw[←hY] at iW;obtain⟨Ay,cy,rfl,hcy,acW⟩:=bw iW;obtain⟨M,hM⟩:=ae Y.length;rw[←hM] at iW hcy Hr3⊢;have hYl:Y.length=N+k:=by rw[hY,adv,zj,←HN.out]
      have H7:M≤4200:=by omega
      have hYb:(B8 Y).length=M:=by rw[B8_length,hM]
      obtain⟨j,hj⟩:∃j,j=15-k:=⟨_,rfl⟩;have ej:(15:Int)-(k:Int)=(j:Int):=by omega
      obtain⟨y,hy⟩:∃y,y=b.length*8/256^j%256:=⟨_,rfl⟩;have cj:wr.cell? ⟨gl,j,none⟩=some (.int .u8 (y:Int)):=by rw[adn wr gl j _ _ (0,0) Hg3.out,nB.out j (by omega),hy]
      have abH:gl<wr.heap.size:=(adg.1 Hg3.out).1;have NT:j<k2:=by omega
      have Hj:=ab hj;have Hy:=ab hy;have HY:=ab hY;have HYb:=ab hYb;clear hj hy hY hM hYb;go_wp2_with (at_builtin;refine aX (m:=1) (c:=1) (base:=w.heap.size) (xs:=B8 Y) (v:=.slice Ay M cy) (A:=some ⟨wr.heap.size,0,none⟩) (B:=wr.heap.size+1) (news:=[.int .u8 (y:Int)]) lC rfl (.tmp 61) (.tmp 69) rfl rfl (iW.alloc _) rfl (Sl.one wr _ _) rfl (by simp;rfl) (by rw[HYb.out];simp[maxLen];omega) (by rw[HYb.out];omega) (by have:=b5.size;simp;omega) ?_;intro v4 w4 rK zO zI);rw[jU Y _ (UInt8.ofNat (b.length*8/256^(16-1-k))) (by rw[Hy.out,Hj.out];simp),HY.out,List.append_assoc,←EO] at rK;have gg:=ig b5 (adi _) iW zO;have KW:(wr.alloc (.cells #[.int .u8 (y:Int)] 5)).heap.size=wr.heap.size+1:=adD _ _
      have Hr4:Hid (∀r,aY v4=some r→r≠gl):=ab fun r hr=>by
       rcases zI with h|h
       · exact Hr3.out r (h▸hr)
       rw[h] at hr;injection hr with hr;omega
      have Hg4:Hid (w4.heap[gl]?=some (.cells Cu 5 (0,0))):=ab (by
       rw[zO.block gl (by omega) (fun e=>Hr3.out gl e.symm rfl),Below.heap_alloc wr _ gl abH];exact Hg3.out)
      refine⟨⟨k+1,aV,rfl,rK,gg,Hr4,Hg4⟩,by simp[intOf];omega⟩
    obtain rfl:k=16:=by omega
    go_wp2_with fail;go_ret;rw[HX.out,hzf,Jc b f Hl.out Hf.out] at iW;exact⟨_,rfl,iW,b5⟩
theorem Jf (x:BitVec 64) (n:Nat) (h0:0<n) (h1:n<64) (w:World):
 Calls Tryz.prog 101 #[.int .u64 (x.toNat:Int),.int .i64 n] w fun e w'=>e=.returned (.int .u64 ((x.rotateRight n).toNat:Int))∧w=w':=by
 have h:=ab <| show bits .or .u64 ((x.toNat:Int)/2^n) (IntKind.u64.wrap ((x.toNat:Int)*2^(64-n)))=((x.rotateRight n).toNat:Int) from by
  rw[IntKind.wrap_u64,Ki,Kj,Qk,BitVec.rotateRight_def,adu h1]
 go_enter Tryz.func101,Tryz.ntmps101;go_wp2;go_ret;exact⟨by rw[←h.out];rfl,rfl⟩
theorem Gh (x:BitVec 64) (n:Int) (h:0<n∧n<64) (w:World):
 Calls Tryz.prog 101 #[eP x,.int .i64 n] w fun e w'=>e=.returned (eP (x.rotateRight n.toNat))∧Below w.heap.size w w':=by
 obtain⟨m,rfl⟩:=Int.eq_ofNat_of_zero_le (show 0≤n by omega);refine(Jf x m (by omega) (by omega) w).mono ?_;rintro e w' ⟨rfl,rfl⟩;exact⟨rfl,adl _ _⟩
theorem Mem.tail {w0 w:World} {L:List (Nat×TypeId×Array Value)} {x:Nat×TypeId×Array Value} (h:Mem w0 w (x::L)):Mem w0 w L:=⟨h.hb,fun r hr=>h.rows r (List.mem_cons_of_mem _ hr),(List.pairwise_cons.1 h.ne).2⟩
theorem Un (a b c d e f g h:BitVec 64):Tryz.prog.built 133 [(0,eP a),(1,eP b),(2,eP c),(3,eP d),(4,eP e),(5,eP f),(6,eP g),(7,eP h)]=some (dY [a,b,c,d,e,f,g,h]).toArray:=by kernel_rfl
theorem MW (x:BitVec 64) (y:UInt8):IntKind.u64.wrap (IntKind.u64.wrap ((x.toNat:Int)*256)+(y.toNat:Int))=((x*256+y.toBitVec.setWidth 64).toNat:Int):=by
 have h:=y.toNat_lt;rw[←Oj,IntKind.wrap_u64,IntKind.wrap_u64];omega
theorem Jg {o:Oper} (ho:o.op=.alloc 145) (ρ:Operand→Value) (W:World):(execOp ρ o).run Tryz.prog W=.ok (.value (.pointer (some ⟨W.heap.size,0,none⟩))) (W.alloc (.cells (jr [] 0).toArray 145)):=by
 unfold execOp;rw[ho];go_simp;rfl
theorem Jh (A:Option Addr) (c:Nat) (b:List UInt8) (w:World) (hs:Sl w w.heap.size A (B8 b)) (hl:b.length≤2048) (jT:b.length≤c) (hc:c≤maxLen):
 Calls Tryz.prog 56 #[.slice A b.length c] w fun e W'=>e=.returned (.agg (B8 (mu b)).toArray)∧Below w.heap.size w W':=by
 obtain⟨kc,oR⟩:∃kc,kc=(dY o9).toArray:=⟨_,rfl⟩;have Uo:kc.size=80:=by rw[oR];simp[jq]
 have V1:Hid (kc.all (·.oneCell')=true):=ab (by rw[oR];simp[dY];intro x _;rfl);have ZS:Hid ((Tryz.prog.info? 145).map (·.size)=some kc.size):=ab (by rw[Uo];kernel_rfl);obtain⟨lP,hhc⟩:∃hc,hc=(dY lR).toArray:=⟨_,rfl⟩;have Up:lP.size=8:=by rw[hhc];simp[kY]
 have FC:Hid (lP.all (·.oneCell')=true):=ab (by rw[hhc];simp[dY];intro x _;rfl);have ZT:Hid ((Tryz.prog.info? 133).map (·.size)=some lP.size):=ab (by rw[Up];kernel_rfl);have JS:=ab oR;have abI:=ab Uo;have Hhc:=ab hhc;have abJ:=ab Up;have Hs:=ab hs;clear oR Uo hhc Up hs;obtain⟨wa,sm⟩:∃wa,wa=w.alloc (.cells (Array.replicate 64 (.int .u8 0)) 45):=⟨_,rfl⟩;obtain⟨wb,OH⟩:=ae (wa.alloc (.cells kc 145));obtain⟨wc,K2⟩:=ae (wb.alloc (.cells lP 133));have ZU:=ab sm;have V6:=ab OH;have Uq:=ab K2;clear sm OH K2;go_enter Tryz.func56,Tryz.ntmps56;go_wp2_with (first|(refine wpList_build rfl 145 _ rfl (by kernel_rfl) ?_;rw[show (Tryz.prog.built 145 _).getD #[]=kc from by rw[JS.out];kernel_rfl];refine(show wa=_ from ZU.out)▸?_)|(refine wpList_build rfl 133 _ rfl (by kernel_rfl) ?_;rw[show (Tryz.prog.built 133 _).getD #[]=lP from by rw[Hhc.out];kernel_rfl])|(refine ado rfl 145 (.tmp 3) (.tmp 20) rfl wa.heap.size kc rfl rfl 145 _ (adk wa _) ZS.out abI.out.symm V1.out ?_;rw[adJ,←V6.out])|(refine ado rfl 133 (.tmp 4) (.tmp 21) rfl wb.heap.size lP rfl rfl 133 _ (adk wb _) ZT.out abJ.out.symm FC.out ?_;rw[adJ,←Uq.out]) )
 have DQ:wa.heap.size=w.heap.size+1:=by rw[ZU.out];exact adD _ _
 have Vr:wb.heap.size=w.heap.size+2:=by rw[V6.out,adD,DQ]
 have hzc:wc.heap.size=w.heap.size+3:=by rw[Uq.out,adD,Vr]
 have zM:Below w.heap.size w wa:=by rw[ZU.out];exact(adl _ w).alloc (adi _) _
 have OG:Below w.heap.size w wb:=by rw[V6.out];exact zM.alloc (by omega) _
 have hBc:Below w.heap.size w wc:=by rw[Uq.out];exact OG.alloc (by omega) _
 have hOc:wc.heap[w.heap.size]?=some (.cells (Array.replicate 64 (.int .u8 0)) 45 (0,0)):=by
  rw[Uq.out,Below.heap_alloc wb _ _ (by omega),V6.out,Below.heap_alloc wa _ _ (by omega),ZU.out];exact adk w _
 have JV:wc.heap[wa.heap.size]?=some (.cells kc 145 (0,0)):=by
  rw[Uq.out,Below.heap_alloc wb _ _ (by omega),V6.out];exact adk wa _
 have hHc:wc.heap[wb.heap.size]?=some (.cells lP 133 (0,0)):=by rw[Uq.out];exact adk wb _
 obtain⟨gk,th⟩:=ae wa.heap.size;obtain⟨gh,xo⟩:=ae wb.heap.size;rw[←th,←xo];rw[←th] at JV;rw[←xo] at hHc;rw[←th] at DQ;rw[←xo] at Vr;have G9:=Hs.out.below hBc;clear th xo zM OG ZU V6 Uq;refine(Jd A c b wc (G9.mono (by omega)) hl jT hc).mono ?_;rintro e wf ⟨mv,rfl,hoM,vE⟩;obtain⟨M,hM⟩:=ae (sI b);rw[←hM] at hoM;obtain⟨Am,cm,rfl,Kb,acX⟩:=bw hoM;have hMm:M.length%128=0:=by rw[hM];exact Ae b
 have H7:M.length≤2200:=by rw[hM];exact Nat.le_trans (Ag b) (by omega)
 have hMp:0<M.length:=by rw[hM];simp[sI,mW];omega
 obtain⟨gm,pD,rfl,hgm,hmF,hmc⟩:∃gm pD,Am=some ⟨gm,0,none⟩∧wc.heap.size≤gm∧wf.heap[gm]?=some (.cells pD 5 (0,0))∧∀j (h:j<M.length),pD[j]?=some (.int .u8 ((M[j]'h).toNat:Int)):=by
  obtain⟨A',c',e,h1,h2,h3⟩:=hoM;injection e with e1 e2 e3;obtain⟨g,cur,e4,h4,h5,h6,h7⟩:=h3 (by omega);refine⟨g,cur,by rw[e1,e4],h4,h5,fun j hj=>?_⟩;have h8:(cur.toList.take (B8 M).length)[j]?=(B8 M)[j]?:=congrArg (fun l=>l[j]?) h7;rw[List.getElem?_take,if_pos (by simpa using hj),show (B8 M)[j]?=some (.int .u8 ((M[j]'hj).toNat:Int)) from by rw[adp (by simpa using hj),ed]] at h8
  simpa using h8
 obtain⟨N,hN⟩:=ae M.length;rw[←hN];rw[←hN] at Kb hMm H7 hMp;have hOf:=(vE.block w.heap.size (by omega)).trans hOc;have hKf:=(vE.block gk (by omega)).trans JV;have hHf:=(vE.block gh (by omega)).trans hHc;have hBf:=hBc.trans (vE.mono (by omega));have W6:w.heap.size<gk:=by omega
 have acY:gk<gh:=by omega
 have acZ:gh<wc.heap.size:=by omega
 clear DQ Vr hzc;have HN:=ab hN;have HMs:=ab hM;have Hmc:=ab hmc;have HmF:=ab hmF;have ZV:=ab hOf;have HKf:=ab hKf;have HHf:=ab hHf;clear hN hM hmc hmF hOf hKf hHf hOc JV hHc hoM G9 Hs
 have HM:Hid (Mem w wf [(gm,5,pD),(gh,133,(dY (lS lR M 0)).toArray),(gk,145,kc),(w.heap.size,45,Array.replicate 64 (.int .u8 0))]):=ab ⟨hBf,fun r hr=>by
  simp only[List.mem_cons,List.not_mem_nil,or_false] at hr;rcases hr with rfl|rfl|rfl|rfl
  · exact⟨HmF.out,by show w.heap.size≤gm;omega⟩
  · exact⟨by rw[HHf.out,Hhc.out];rfl,by show w.heap.size≤gh;omega⟩
  · exact⟨HKf.out,by show w.heap.size≤gk;omega⟩
  · exact⟨ZV.out,adi _⟩,by
  simp only[List.pairwise_cons,List.mem_cons,List.not_mem_nil,or_false,forall_eq_or_imp,forall_eq,List.Pairwise.nil,and_true];refine⟨⟨?_,?_,?_⟩,⟨?_,?_⟩,?_,by simp⟩<;>omega⟩
 have bx:Tryz.prog.follows .mixedOrders=true:=by kernel_rfl
 clear hBf HmF HHf HKf ZV;go_wp2_with fail;go_loopw [6] (fun i wr=>∃j a:Nat,Hid (a=128*j)∧a≤N∧i=.int .i64 a∧Hid (Mem w wr [(gm,5,pD),(gh,133,(dY (lS lR M j)).toArray),(gk,145,kc),(w.heap.size,45,Array.replicate 64 (.int .u8 0))])) (fun i _=>N-(intOf i).toNat)
 case atStart=>exact⟨0,0,ab rfl,adF _,rfl,HM⟩
 case round=>
  clear HM;obtain⟨j,a,Ha,haN,rfl,HM⟩:=hrel
  by_cases aV:a<N
  · have abK:a+128≤N:=by have:=Ha.out;omega
    obtain⟨bl,qP⟩:∃bl,bl=(M.drop (128*j)).take 128:=⟨_,rfl⟩
    have hbm:∀q,q<128→∃y:UInt8,bl.getD q 0=y∧pD[a+q]?=some (.int .u8 (y.toNat:Int)):=fun q hq=>by
     refine⟨_,rfl,?_⟩;have h1:a+q<M.length:=by have:=HN.out;omega
     rw[Hmc.out (a+q) h1,qP,←Ha.out];simp[List.getD_eq_getElem?_getD,List.getElem?_take,hq,h1]
    have Hbl:=ab qP;have Hbm:=ab hbm;clear qP hbm;go_upto_region 8 with (first|(show wpList _ _ _ (⟨some 7,_,_,_,_,_⟩::_) _ _;refine ag 0 [(0,6)] rfl (by kernel_rfl) ?_)|(show ai _ _ _ _ _ _ ((_,6)::_) _;refine aq HM.out rfl rfl rfl (by kernel_rfl) (Jg rfl) ?_;intro W gN af;replace HM:=ab af;clear af)|(show ai _ _ _ _ _ _ [] _;refine ay (fun K hK=>?_);simp only[aG];go_simp;refine hK _ ?_;clear hK K));obtain⟨gW,Fu⟩:∃g,g=gN:=⟨_,rfl⟩;rw[←Fu] at HM;simp only[←Fu];clear Fu;go_wp2_with fail;go_loopw [8] (fun i wr=>∃t:Nat,t≤16∧i=.int .i64 t∧Hid (Mem w wr ((gW,145,(jr bl t).toArray)::[(gm,5,pD),(gh,133,(dY (lS lR M j)).toArray),(gk,145,kc),(w.heap.size,45,Array.replicate 64 (.int .u8 0))]))) (fun i _=>16-(intOf i).toNat)
    case atStart=>exact⟨0,adF _,rfl,HM⟩
    case round=>
     clear HM;obtain⟨t,ht,rfl,HM⟩:=hrel
     by_cases abL:t<16
     · go_wp2_with fail
       rw[show decide ((t:Int)<16)=true from by simp;omega];go_loopw [9] (fun i wr=>∃q:Nat,q≤8∧i=.int .i64 q∧Hid (Mem w wr ((gW,145,((jr bl t).set t (eP (iZ bl t q))).toArray)::[(gm,5,pD),(gh,133,(dY (lS lR M j)).toArray),(gk,145,kc),(w.heap.size,45,Array.replicate 64 (.int .u8 0))]))) (fun i _=>8-(intOf i).toNat)
       case atStart=>exact⟨0,adF _,rfl,by rw[xg bl t (by omega)];exact HM⟩
       case round=>
        clear HM;obtain⟨q,hq,rfl,HM⟩:=hrel
        by_cases R2:q<8
        · obtain⟨x,hx⟩:=ae (iZ bl t q)
          obtain⟨ma,Ji⟩:∃ma,ma=a+(8*t+q):=⟨_,rfl⟩;have ema:(a:Int)+8*(t:Int)+(q:Int)=(ma:Int):=by omega
          have ac0:ma<N:=by omega
          obtain⟨y,hy,Rh⟩:=Hbm.out (8*t+q) (by omega);have cx:wr.cell? ⟨gW,t,none⟩=some (.int .u64 (x.toNat:Int)):=dL (HM.out.at_ 0 rfl) (by rw[List.getElem?_set_self (by rw[js bl t (by omega)];omega),hx]);have fx:=frozen_of_row wr gW t _ _ (HM.out.at_ 0 rfl)
          have cy:wr.cell? ⟨gm,ma,none⟩=some (.int .u8 (y.toNat:Int)):=by
           rw[adn wr gm ma _ _ (0,0) (HM.out.at_ 1 rfl),Ji];exact Rh
          have hy8:=y.toNat_lt;have Hx:=ab hx;have Hy:=ab hy;clear hx Ji hy Rh;go_wp2_with fail;refine aE [(0,0),(1,0),(2,0),(3,1),(4,0),(5,0),(6,0),(7,0),(8,0),(9,0),(10,0),(11,0),(12,0),(13,1),(14,0),(15,0),(16,0),(17,2)] 17 bx (by kernel_rfl) (by intro c a d v w h;cases d<;>exact h) ?_
          repeat ((first|(refine ao rfl (fun K hK=>?_))|(refine aD rfl (fun K hK=>?_)));go_simp;(first|(refine hK _ ?_)|(simp only[IntWalk.iteOmega];go_simp;refine hK _ ?_) );clear hK K;(try go_bits))
          refine ah rfl rfl (fun K hK=>?_);go_wp2_with fail;refine⟨.inl (by decide),aB ?_⟩;go_wp2_with fail;have iT:=(HM.out.setD 0 rfl t (.int .u64 ((x*256+y.toBitVec.setWidth 64).toNat:Int))).drew
          have zD:x*256+y.toBitVec.setWidth 64=iZ bl t (q+1):=by
           rw[iZ,←Hx.out,Hy.out,Oi]
          rw[List.set_set,zD] at iT;refine⟨⟨q+1,by omega,rfl,?_⟩,by simp[intOf];omega⟩;rw[MW x y,zD];exact ab iT
        obtain rfl:q=8:=by omega
        rw[show iZ bl t 8=lK bl t from(Kd bl t abL).symm,pO bl t (by omega)] at HM;go_wp2_with fail;exact⟨⟨t+1,by omega,rfl,HM⟩,by simp[intOf];omega⟩
     obtain rfl:t=16:=by omega
     go_wp2_with fail
     try rw[show ((16:Nat):Int)=16 from rfl]
     go_loopw [10] (fun i wr=>∃k:Nat,16≤k∧k≤80∧i=.int .i64 k∧Hid (Mem w wr ((gW,145,(jr bl k).toArray)::[(gm,5,pD),(gh,133,(dY (lS lR M j)).toArray),(gk,145,kc),(w.heap.size,45,Array.replicate 64 (.int .u8 0))]))) (fun i _=>80-(intOf i).toNat)
     case atStart=>exact⟨16,adi _,by omega,rfl,HM⟩
     case round=>
      clear HM;obtain⟨k,ac1,hk,rfl,HM⟩:=hrel
      by_cases aV:k<80
      · obtain⟨tV,Au⟩:∃m,m=k-16:=⟨_,rfl⟩
        obtain⟨tW,Ax⟩:∃m,m=k-15:=⟨_,rfl⟩;obtain⟨a7,Qr⟩:∃m,m=k-7:=⟨_,rfl⟩;obtain⟨a2,xh⟩:∃m,m=k-2:=⟨_,rfl⟩;have Vl:(k:Int)-16=(tV:Int):=by omega
        have Vm:(k:Int)-15=(tW:Int):=by omega
        have e7:(k:Int)-7=(a7:Int):=by omega
        have e2:(k:Int)-2=(a2:Int):=by omega
        have l16:tV<80:=by omega
        have l15:tW<80:=by omega
        have l7:a7<80:=by omega
        have l2:a2<80:=by omega
        have NL:=(fp bl k tV hk (by omega)).trans (eV bl tV l16);have NM:=(fp bl k tW hk (by omega)).trans (eV bl tW l15);have c7:=(fp bl k a7 hk (by omega)).trans (eV bl a7 l7);have c2:=(fp bl k a2 hk (by omega)).trans (eV bl a2 l2);have Hx:Hid (lK bl k=lK bl tV+lK bl a7+Ve (lK bl tW)+Vf (lK bl a2)):=by subst Au Ax Qr xh;exact Ke bl k (by omega)
        clear Au Ax Qr xh;obtain⟨R3,AA⟩:∃x,x=lK bl tV:=⟨_,rfl⟩;obtain⟨Fv,AB⟩:∃x,x=lK bl tW:=⟨_,rfl⟩;obtain⟨x7,Qs⟩:∃x,x=lK bl a7:=⟨_,rfl⟩;obtain⟨x2,yf⟩:∃x,x=lK bl a2:=⟨_,rfl⟩;rw[←AA] at NL Hx;rw[←AB] at NM Hx;rw[←Qs] at c7 Hx;rw[←yf] at c2 Hx;have E16:=ab Vl;have E15:=ab Vm;have E7:=ab e7;have E2:=ab e2;have CY:=js bl k hk;have sK:=pO bl k aV;obtain⟨R5,WG⟩:∃R,R=jr bl k:=⟨_,rfl⟩;rw[←WG] at CY sK NL NM c7 c2 HM;have Hrl:=ab CY;have KI:=ab sK
        have CA:Hid (∀W,Mem w W ((gW,145,R5.toArray)::[(gm,5,pD),(gh,133,(dY (lS lR M j)).toArray),(gk,145,kc),(w.heap.size,45,Array.replicate 64 (.int .u8 0))])→W.cell? ⟨gW,tW,none⟩=some (eP Fv)∧W.cell? ⟨gW,a2,none⟩=some (eP x2)∧W.cell? ⟨gW,tV,none⟩=some (eP R3)∧W.cell? ⟨gW,a7,none⟩=some (eP x7)):=
         ab fun W h=>⟨dL (h.at_ 0 rfl) NM,dL (h.at_ 0 rfl) c2,dL (h.at_ 0 rfl) NL,dL (h.at_ 0 rfl) c7⟩
        clear AA AB Qs yf NL NM c7 c2 Vl Vm e7 e2 CY sK WG;obtain⟨S0,hS0⟩:∃S,S=Ve Fv:=⟨_,rfl⟩;obtain⟨S1,Ql⟩:∃S,S=Vf x2:=⟨_,rfl⟩;have HS0:=ab hS0;have Ue:=ab Ql;clear hS0 Ql;go_wp2_with (first|(show ai _ _ _ _ _ _ ((_,0)::_) _;refine aj (d:=11) rfl rfl rfl (by kernel_rfl) _ (.inr rfl) (v:=eP S0) (by show eP _=eP S0;rw[HS0.out];rfl) ?_)|(show ai _ _ _ _ _ _ ((_,0)::_) _;refine aj (d:=12) rfl rfl rfl (by kernel_rfl) _ (.inr rfl) (v:=eP S1) (by show eP _=eP S1;rw[Ue.out];rfl) ?_)|(show Code.wp _ (Code.region 18 _ _) _ _ _;refine aQ [(0,0),(1,0),(2,0),(3,1),(4,2),(5,0),(6,0),(7,0),(8,1),(9,2),(10,0),(11,0),(12,0),(13,0),(14,1),(15,0),(16,0),(17,0)] [] [] bx (by kernel_rfl) (by intro c a d v w h;cases d<;>exact h) trivial (aH ?_);replace HM:=ab HM.out.drew)|(show Code.wp _ (Code.region 19 _ _) _ _ _;refine aQ [(0,0),(1,0),(2,0),(3,1),(4,2),(5,0),(6,0),(7,0),(8,1),(9,2),(10,0),(11,0),(12,0),(13,0),(14,1),(15,0),(16,0),(17,0)] [] [] bx (by kernel_rfl) (by intro c a d v w h;cases d<;>exact h) trivial (aH ?_);replace HM:=ab HM.out.drew)|(show Code.wp _ (Code.region 20 _ _) _ _ _;refine aQ [(0,0),(1,0),(2,0),(3,0),(4,0),(5,1),(6,0),(7,0),(8,0),(9,0),(10,0),(11,0),(12,1),(13,0),(14,0)] [] [(15,3)] bx (by kernel_rfl) (by intro c a d v w h;cases d<;>exact h) trivial (aH ?_);replace HM:=ab HM.out.drew)|(show ai _ _ _ _ _ _ ((_,0)::_) _;refine aj rfl rfl rfl (by kernel_rfl) _ (.inl rfl) (v:=.int _ _) rfl ?_)|(show ai _ _ _ _ _ _ ((_,0)::_) _;refine j2 rfl rfl rfl (by kernel_rfl) _ _ rfl rfl rfl ?_)|(show ai _ _ _ _ _ _ ((_,0)::_) _;refine nZ rfl rfl rfl (by kernel_rfl) _ _ rfl rfl rfl ?_)|(show ai _ _ _ _ _ _ ((_,0)::_) _;refine n0 rfl rfl rfl (by kernel_rfl) _ 7 rfl (by decide) rfl ?_)|(show ai _ _ _ _ _ _ ((_,0)::_) _;refine n0 rfl rfl rfl (by kernel_rfl) _ 6 rfl (by decide) rfl ?_)|(show ai _ _ _ _ _ _ [] _;refine bj ?_)|(show cu _ _ _ _ _ _ [] _ _;refine bm HM.out ?_;intro W af;simp only[adj,adh,List.set_cons_zero,List.set_cons_succ] at af;replace HM:=ab af;clear af)|(show ai _ _ _ _ _ _ [] _;refine ay (fun K hK=>?_);simp only[aG];go_simp;refine hK _ ?_;clear hK K)|(show ai _ _ _ _ _ _ ((_,0)::_) _;refine tU rfl rfl rfl (by kernel_rfl) _ _ rfl rfl rfl (by with_reducible first|exact E15.out|exact E2.out|exact E16.out|exact E7.out) (by omega) ?_)|(show ai _ _ _ _ _ _ ((_,0)::_) _;refine bR 145 rfl rfl rfl (by kernel_rfl) _ _ rfl rfl rfl Tryz.underlying145 (by kernel_rfl) (by omega) ?_)|(show ai _ _ _ _ _ _ ((_,1)::_) _;refine fK 65 rfl rfl rfl (by kernel_rfl) _ rfl rfl Tryz.underlying65 (by with_reducible first|exact(CA.out _ HM.out).1|exact(CA.out _ HM.out).2.1|exact(CA.out _ HM.out).2.2.1|exact(CA.out _ HM.out).2.2.2) ?_)|((first|(show ai _ _ _ _ _ _ ((_,2)::_) _;refine aF (f:=101) rfl rfl rfl ?_) );refine⟨_,_,Tryz.func101,by kernel_rfl,by kernel_rfl,by kernel_rfl,fun W hW=>Gh _ _ (by decide) _,?_⟩;try (intro W af;replace HM:=ab af;clear af))|(show ai _ _ _ _ _ _ ((_,3)::_) _;refine n5 HM.out 65 _ _ rfl rfl Tryz.underlying65 (by kernel_rfl) ?_;refine⟨0,_,_,_,_,_,rfl,rfl,rfl,rfl,rfl,(by show k<R5.toArray.size;rw[List.size_toArray,Hrl.out];exact aV),?_⟩;intro W af;replace HM:=ab af;clear af))
        have iT:Mem w W ((gW,145,(R5.set k (eP (lK bl k))).toArray)::[(gm,5,pD),(gh,133,(dY (lS lR M j)).toArray),(gk,145,kc),(w.heap.size,45,Array.replicate 64 (.int .u8 0))]):=by
         rw[Hx.out,show R3+x7+Ve Fv+Vf x2=S1+x7+S0+R3 from by rw[HS0.out,Ue.out];ac_rfl];have h:=HM.out;rw[List.setIfInBounds_toArray] at h;exact h
        rw[KI.out] at iT;exact⟨⟨k+1,by omega,by omega,rfl,ab iT⟩,by simp[intOf];omega⟩
      obtain rfl:k=80:=by omega
      rw[show (jr bl 80).toArray=(dY (o7 bl)).toArray from by rw[jr,ady (by rw[eE];omega),Nat.sub_self];simp] at HM
      obtain⟨s0,s1,s2,s3,s4,s5,s6,s7,zF⟩:∃s0 s1 s2 s3 s4 s5 s6 s7,lS lR M j=[s0,s1,s2,s3,s4,s5,s6,s7]:=by
       have hl:(lS lR M j).length=8:=by rw[kZ];rfl
       match lS lR M j,hl with
       |[s0,s1,s2,s3,s4,s5,s6,s7],_=>exact⟨s0,s1,s2,s3,s4,s5,s6,s7,rfl⟩
      rw[zF] at HM;have Hss:=ab zF;clear zF;obtain⟨ws,AD⟩:∃ws,ws=(dY (o7 bl)).toArray:=⟨_,rfl⟩;rw[←AD] at HM;have WH:=ab AD;clear AD
      try rw[show ((80:Nat):Int)=80 from rfl]
      go_upto_region 22 with (first|(show wpList _ _ _ (⟨some 108,_,_,_,_,_⟩::_) _ _;refine ag 0 [(0,1),(1,6),(2,3)] rfl (by kernel_rfl) ?_)|(show ai _ _ _ _ _ _ ((_,1)::_) _;refine az rfl rfl rfl (by kernel_rfl) 133 _ rfl rfl Tryz.underlying133 rfl (t:=133) (by first|exact HM.out.at_ 2 rfl) WD ?_)|(show ai _ _ _ _ _ _ ((_,6)::_) _;refine aq HM.out rfl rfl rfl (by kernel_rfl) (q9 rfl) ?_;intro W gN af;replace HM:=ab af;clear af)|(show ai _ _ _ _ _ _ ((_,3)::_) _;refine an HM.out 133 _ _ rfl rfl ?_;(first|(refine⟨0,_,_,_,_,rfl,rfl,rfl,rfl,rfl,WD,rfl,(pN _),?_⟩));intro W af;simp only[adj,adh,List.set_cons_zero,List.set_cons_succ] at af;replace HM:=ab af;clear af)|(show ai _ _ _ _ _ _ [] _;refine ay (fun K hK=>?_);simp only[aG];go_simp;refine hK _ ?_;clear hK K));obtain⟨gV,Qt⟩:∃g,g=gN:=⟨_,rfl⟩;rw[←Qt] at HM;simp only[←Qt];clear Qt;go_wp2_with fail
      go_loopw [14] (fun i wq=>∃(k:Nat) (a0 a1 a2 a3 a4 a5 a6 a7:BitVec 64),k≤80∧i=.int .i64 k∧Hid (sa o9 bl [s0,s1,s2,s3,s4,s5,s6,s7] k=[a0,a1,a2,a3,a4,a5,a6,a7])∧
       Hid (Mem w wq ((gV,133,(dY [a0,a1,a2,a3,a4,a5,a6,a7]).toArray)::(gW,145,ws)::[(gm,5,pD),(gh,133,(dY [s0,s1,s2,s3,s4,s5,s6,s7]).toArray),(gk,145,kc),(w.heap.size,45,Array.replicate 64 (.int .u8 0))]))) (fun i _=>80-(intOf i).toNat)
      case atStart=>exact⟨0,s0,s1,s2,s3,s4,s5,s6,s7,adF _,rfl,ab rfl,HM⟩
      case round=>
       clear HM;obtain⟨k,a0,a1,a2,a3,a4,a5,a6,a7,hk,rfl,hR,HM⟩:=hrel
       by_cases aV:k<80
       · obtain⟨xw,Fw⟩:∃x,x=lK bl k:=⟨_,rfl⟩
         obtain⟨xk,oG⟩:∃x,x=o9.getD k 0:=⟨_,rfl⟩
         have CW:Hid (∀W,Mem w W ((gV,133,(dY [a0,a1,a2,a3,a4,a5,a6,a7]).toArray)::(gW,145,ws)::[(gm,5,pD),(gh,133,(dY [s0,s1,s2,s3,s4,s5,s6,s7]).toArray),(gk,145,kc),(w.heap.size,45,Array.replicate 64 (.int .u8 0))])→W.cell? ⟨gk,k,none⟩=some (eP xk)∧W.cell? ⟨gW,k,none⟩=some (eP xw)):=ab fun W h=>
          ⟨by rw[adn W gk k _ _ (0,0) (h.at_ 4 rfl),JS.out,List.getElem?_toArray,ni,oG];simp[jq,aV],by rw[adn W gW k _ _ (0,0) (h.at_ 1 rfl),WH.out,List.getElem?_toArray,Fw];exact eV bl k aV⟩
         have WJ:=ab Fw;have NN:=ab oG;clear Fw oG;obtain⟨T,hT⟩:∃T,T=a7+Sg1 a4+ch5 a4 a5 a6+xk+xw:=⟨_,rfl⟩;obtain⟨U,hU⟩:∃U,U=Sg0 a0+RB a0 a1 a2:=⟨_,rfl⟩;have HT:=ab hT;have HU:=ab hU;clear hT hU;go_wp2_with (first|(show ai _ _ _ _ _ _ ((_,0)::_) _;refine aj (d:=15) rfl rfl rfl (by kernel_rfl) _ (.inr rfl) (v:=eP T) (by show eP _=eP T;rw[HT.out];rfl) ?_)|(show ai _ _ _ _ _ _ ((_,0)::_) _;refine aj (d:=16) rfl rfl rfl (by kernel_rfl) _ (.inr rfl) (v:=eP U) (by show eP _=eP U;rw[HU.out];rfl) ?_)|(show Code.wp _ (Code.region 25 _ _) _ _ _;refine aQ [(0,0),(1,1),(2,0),(3,1),(4,2),(5,0),(6,1),(7,2),(8,0),(9,0),(10,1),(11,2),(12,0),(13,0),(14,0),(15,1),(16,0),(17,1),(18,0),(19,0),(20,1),(21,0),(22,0),(23,1),(24,0),(25,0),(26,0),(27,0),(28,0),(29,1),(30,0),(31,0),(32,0),(33,1),(34,0),(35,0)] [] [] bx (by kernel_rfl) (by intro c a d v w h;cases d<;>exact h) trivial (aH ?_);replace HM:=ab HM.out.drew)|(show Code.wp _ (Code.region 26 _ _) _ _ _;refine aQ [(0,0),(1,1),(2,2),(3,0),(4,1),(5,2),(6,0),(7,0),(8,1),(9,2),(10,0),(11,0),(12,1),(13,0),(14,1),(15,0),(16,0),(17,1),(18,0),(19,1),(20,0),(21,0),(22,0),(23,1),(24,0),(25,1),(26,0),(27,0),(28,0),(29,0)] [] [] bx (by kernel_rfl) (by intro c a d v w h;cases d<;>exact h) trivial (aH ?_);replace HM:=ab HM.out.drew)|(show wpList _ _ _ (⟨some 179,_,_,_,_,_⟩::_) _ _;refine ag 2 [(2,0),(3,0),(4,1),(5,0),(6,1),(7,0),(8,1),(9,0),(10,1),(11,0),(12,0),(13,0),(14,1),(15,0),(16,1),(17,0),(18,1),(19,0),(20,3)] rfl (by kernel_rfl) ?_)|(show ai _ _ _ _ _ _ ((_,0)::_) _;refine aj rfl rfl rfl (by kernel_rfl) _ (.inl rfl) (v:=.int _ _) rfl ?_)|(show ai _ _ _ _ _ _ ((_,0)::_) _;refine j2 rfl rfl rfl (by kernel_rfl) _ _ rfl rfl rfl ?_)|(show ai _ _ _ _ _ _ ((_,0)::_) _;refine nZ rfl rfl rfl (by kernel_rfl) _ _ rfl rfl rfl ?_)|(show ai _ _ _ _ _ _ ((_,0)::_) _;refine xd rfl rfl rfl (by kernel_rfl) _ _ rfl rfl rfl ?_)|(show ai _ _ _ _ _ _ ((_,0)::_) _;refine xe rfl rfl rfl (by kernel_rfl) _ rfl rfl ?_)|(show ai _ _ _ _ _ _ [] _;refine bj ?_)|(show cu _ _ _ _ _ _ [] _ _;refine bm HM.out ?_;intro W af;simp only[adj,adh,List.set_cons_zero,List.set_cons_succ] at af;replace HM:=ab af;clear af)|(show ai _ _ _ _ _ _ [] _;refine ay (fun K hK=>?_);simp only[aG];go_simp;refine hK _ ?_;clear hK K)|((first|(show ai _ _ _ _ _ _ ((_,2)::_) _;refine aF (f:=101) rfl rfl rfl ?_) );refine⟨_,_,Tryz.func101,by kernel_rfl,by kernel_rfl,by kernel_rfl,fun W hW=>Gh _ _ (by decide) _,?_⟩;try (intro W af;replace HM:=ab af;clear af))|(show ai _ _ _ _ _ _ ((_,0)::_) _;refine bR 133 (k:=0) rfl rfl rfl (by kernel_rfl) _ _ rfl rfl rfl Tryz.underlying133 (by kernel_rfl) (by decide) ?_)|(show ai _ _ _ _ _ _ ((_,0)::_) _;refine bR 133 (k:=1) rfl rfl rfl (by kernel_rfl) _ _ rfl rfl rfl Tryz.underlying133 (by kernel_rfl) (by decide) ?_)|(show ai _ _ _ _ _ _ ((_,0)::_) _;refine bR 133 (k:=2) rfl rfl rfl (by kernel_rfl) _ _ rfl rfl rfl Tryz.underlying133 (by kernel_rfl) (by decide) ?_)|(show ai _ _ _ _ _ _ ((_,0)::_) _;refine bR 133 (k:=3) rfl rfl rfl (by kernel_rfl) _ _ rfl rfl rfl Tryz.underlying133 (by kernel_rfl) (by decide) ?_)|(show ai _ _ _ _ _ _ ((_,0)::_) _;refine bR 133 (k:=4) rfl rfl rfl (by kernel_rfl) _ _ rfl rfl rfl Tryz.underlying133 (by kernel_rfl) (by decide) ?_)|(show ai _ _ _ _ _ _ ((_,0)::_) _;refine bR 133 (k:=5) rfl rfl rfl (by kernel_rfl) _ _ rfl rfl rfl Tryz.underlying133 (by kernel_rfl) (by decide) ?_)|(show ai _ _ _ _ _ _ ((_,0)::_) _;refine bR 133 (k:=6) rfl rfl rfl (by kernel_rfl) _ _ rfl rfl rfl Tryz.underlying133 (by kernel_rfl) (by decide) ?_)|(show ai _ _ _ _ _ _ ((_,0)::_) _;refine bR 133 (k:=7) rfl rfl rfl (by kernel_rfl) _ _ rfl rfl rfl Tryz.underlying133 (by kernel_rfl) (by decide) ?_)|(show ai _ _ _ _ _ _ ((_,0)::_) _;refine bR 145 rfl rfl rfl (by kernel_rfl) _ _ rfl rfl rfl Tryz.underlying145 (by kernel_rfl) (by omega) ?_)|(show ai _ _ _ _ _ _ ((_,1)::_) _;refine fK 65 rfl rfl rfl (by kernel_rfl) _ rfl rfl Tryz.underlying65 (by with_reducible first|exact(v8 HM.out).1|exact(v8 HM.out).2.1|exact(v8 HM.out).2.2.1|exact(v8 HM.out).2.2.2.1|exact(v8 HM.out).2.2.2.2.1|exact(v8 HM.out).2.2.2.2.2.1|exact(v8 HM.out).2.2.2.2.2.2.1|exact(v8 HM.out).2.2.2.2.2.2.2|exact(CW.out _ HM.out).1|exact(CW.out _ HM.out).2) ?_)|(show ai _ _ _ _ _ _ ((_,0)::_) _;refine aM rfl rfl rfl (by kernel_rfl) 133 _ rfl (Un _ _ _ _ _ _ _ _) rfl ?_)|(show ai _ _ _ _ _ _ ((_,3)::_) _;refine an HM.out 133 _ _ rfl rfl ?_;(first|(refine⟨0,_,_,_,_,rfl,rfl,rfl,rfl,rfl,WD,rfl,(pN _),?_⟩));intro W af;simp only[adj,adh,List.set_cons_zero,List.set_cons_succ] at af;replace HM:=ab af;clear af));refine⟨⟨k+1,T+U,a0,a1,a2,a3+T,a4,a5,a6,by omega,rfl,ab ?_,HM⟩,by simp[intOf];omega⟩;show Kf _ _ (sa o9 bl _ k)=_;rw[hR.out,←NN.out,←WJ.out,HT.out,HU.out];rfl
       obtain rfl:k=80:=by omega
       obtain⟨ss,zF⟩:∃ss,ss=[s0,s1,s2,s3,s4,s5,s6,s7]:=⟨_,rfl⟩;obtain⟨vs,CV⟩:∃vs,vs=[a0,a1,a2,a3,a4,a5,a6,a7]:=⟨_,rfl⟩;have lE:ss.length=8:=by rw[zF];rfl
       have CZ:vs.length=8:=by rw[CV];rfl
       have lW:Hid (jJ o9 bl (lS lR M j)=List.zipWith (·+·) ss vs):=ab (by rw[Hss.out,jJ,hR.out,zF,CV]);rw[←zF,←CV,←sb ss vs] at HM;clear zF CV hR
       try rw[show ((80:Nat):Int)=80 from rfl]
       go_wp2_with fail;go_loopw [17] (fun i wq=>∃k:Nat,k≤8∧i=.int .i64 k∧Hid (Mem w wq [(gV,133,(dY vs).toArray),(gW,145,ws),(gm,5,pD),(gh,133,(dY (dG ss vs k)).toArray),(gk,145,kc),(w.heap.size,45,Array.replicate 64 (.int .u8 0))])) (fun i _=>8-(intOf i).toNat)
       case atStart=>exact⟨0,adF _,rfl,HM⟩
       case round=>
        clear HM;obtain⟨k,hk,rfl,HM⟩:=hrel
        by_cases aV:k<8
        · have e1:=wR ss vs lE CZ [] k aV
          have e2:=tH ss vs lE CZ [] k aV;have e3:=oO ss vs lE CZ k hk;rw[List.append_nil] at e1;rw[List.append_nil,List.append_nil] at e2;obtain⟨x,hx⟩:=ae (ss.getD k 0);obtain⟨y,hy⟩:=ae (vs.getD k 0);rw[←hx] at e1;rw[←hx,←hy] at e2;have e4:(dY vs).toArray[k]?=some (eP y):=by rw[List.getElem?_toArray,ni,hy];simp[CZ,aV]
          obtain⟨mx,Ur⟩:∃m,m=dY (dG ss vs k):=⟨_,rfl⟩;rw[←Ur] at e1 e2 HM;have hmz:k<mx.toArray.size:=by rw[Ur];simp[e3,aV]
          have E2:=ab e2;have HZ:=ab hmz
          have CX:Hid (∀W,Mem w W [(gV,133,(dY vs).toArray),(gW,145,ws),(gm,5,pD),(gh,133,mx.toArray),(gk,145,kc),(w.heap.size,45,Array.replicate 64 (.int .u8 0))]→W.cell? ⟨gh,k,none⟩=some (eP x)∧W.cell? ⟨gV,k,none⟩=some (eP y)):=ab fun W h=>
           ⟨(adn W gh k _ _ (0,0) (h.at_ 3 rfl)).trans e1,(adn W gV k _ _ (0,0) (h.at_ 0 rfl)).trans e4⟩
          clear e1 e2 e3 e4 hx hy Ur hmz;go_wp2_with (first|(show Code.wp _ (Code.region 31 _ _) _ _ _;refine aQ [(0,0),(1,0),(2,0),(3,1),(4,0),(5,0),(6,1),(7,0),(8,0)] [] [(9,3)] bx (by kernel_rfl) (by intro c a d v w h;cases d<;>exact h) trivial (aH ?_);replace HM:=ab HM.out.drew)|(show ai _ _ _ _ _ _ ((_,0)::_) _;refine aj rfl rfl rfl (by kernel_rfl) _ (.inl rfl) (v:=.int _ _) rfl ?_)|(show ai _ _ _ _ _ _ ((_,0)::_) _;refine j2 rfl rfl rfl (by kernel_rfl) _ _ rfl rfl rfl ?_)|(show ai _ _ _ _ _ _ [] _;refine bj ?_)|(show cu _ _ _ _ _ _ [] _ _;refine bm HM.out ?_;intro W af;simp only[adj,adh,List.set_cons_zero,List.set_cons_succ] at af;replace HM:=ab af;clear af)|(show ai _ _ _ _ _ _ [] _;refine ay (fun K hK=>?_);simp only[aG];go_simp;refine hK _ ?_;clear hK K)|(show ai _ _ _ _ _ _ ((_,0)::_) _;refine bR 133 rfl rfl rfl (by kernel_rfl) _ _ rfl rfl rfl Tryz.underlying133 (by kernel_rfl) aV ?_)|(show ai _ _ _ _ _ _ ((_,1)::_) _;refine fK 65 rfl rfl rfl (by kernel_rfl) _ rfl rfl Tryz.underlying65 (by with_reducible first|exact(CX.out _ HM.out).1|exact(CX.out _ HM.out).2) ?_)|(show ai _ _ _ _ _ _ ((_,3)::_) _;refine n5 HM.out 65 _ _ rfl rfl Tryz.underlying65 (by kernel_rfl) ?_;refine⟨3,_,_,_,_,_,rfl,rfl,rfl,rfl,rfl,(HZ.out),?_⟩;intro W af;replace HM:=ab af;clear af));refine⟨⟨k+1,by omega,rfl,ab ?_⟩,by simp[intOf];omega⟩;have h:=HM.out;simp only[List.set_cons_succ,List.set_cons_zero] at h;rw[show mx.toArray.setIfInBounds k (eP (x+y))=_ from E2.out] at h;exact h
        obtain rfl:k=8:=by omega
        go_wp2_with fail;rw[show dG ss vs 8=lS lR M (j+1) from by rw[tG ss vs lE CZ,←lW.out,lS,←Hbl.out]] at HM;exact⟨⟨j+1,a+128,ab (by rw[Ha.out];omega),abK,rfl,ab HM.out.tail.tail⟩,by simp[intOf];omega⟩
  obtain⟨wE,ik⟩:=ae wr;subst ik;obtain⟨MX,sK⟩:∃st,st=lS lR M j:=⟨_,rfl⟩;have ZW:MX.length=8:=by rw[sK,kZ];rfl
  have hj5:j=M.length/128:=by have:=Ha.out;have:=HN.out;omega
  have KI:Hid (kQ MX=mu b):=ab (by rw[sK,hj5,HMs.out];rfl);have hHE:wE.heap[gh]?=some (.cells (dY MX).toArray 133 (0,0)):=by rw[sK];exact HM.out.at_ 1 rfl
  have HHE:=ab hHE;have oS:wE.heap[w.heap.size]?=some (.cells (Array.replicate 64 (.int .u8 0)) 45 (0,0)):=HM.out.at_ 3 rfl;have ML:=ab oS;have ac2:=(adg.1 hHE).1;have ac3:=(adg.1 oS).1;have hBE:=HM.out.hb;clear sK hj5 hHE oS HM;go_wp2_with fail;obtain⟨gz,FO⟩:=ae wE.heap.size;obtain⟨w5,FF⟩:∃w5,w5=wE.alloc (.cells (Array.replicate 64 (.int .u8 0)) 45):=⟨_,rfl⟩;rw[←FO];refine(show w5=_ from FF)▸?_;have YN:Fill w5 gz 45 64 (B8 (kQ MX)) 0:=by rw[FF,FO];exact Fill.new' wE _ 64 (.int .u8 0) _
  have QX:Below gz wE w5:=by rw[FF,FO];exact(adl _ _).alloc (adi _) _
  have abM:gh<gz:=by omega
  have abN:w.heap.size<gz:=by omega
  clear FF FO;go_loopw [19] (fun i wr=>∃k:Nat,k≤64∧i=.int .i64 k∧Fill wr gz 45 64 (B8 (kQ MX)) k∧Below gz wE wr) (fun i _=>64-(intOf i).toNat)
  case atStart=>exact⟨0,adF _,rfl,YN,QX⟩
  case round=>
   clear YN QX;obtain⟨k,hk,rfl,bn,qk⟩:=hrel
   by_cases OU:k<64
   · obtain⟨m4,hm4⟩:∃m,m=k/8:=⟨_,rfl⟩
     have em4:(k:Int)/8=(m4:Int):=by omega
     have abO:m4<8:=by omega
     obtain⟨sh,NP⟩:∃sh,sh=56-8*(k%8):=⟨_,rfl⟩;have esh:(56:Int)-8*((k:Int)%8)=(sh:Int):=by omega
     obtain⟨x,hx⟩:∃x,x=MX[m4]:=⟨_,rfl⟩
     have cx:wr.cell? ⟨gh,m4,none⟩=some (.int .u64 (x.toNat:Int)):=by
      rw[adn wr gh m4 _ _ (0,0) ((qk.block gh abM).trans HHE.out),hx];simp[dY,ZW,abO]
     obtain⟨v0,WZ⟩:=bn.cell OU;have wV:=bn.frozen k;have XY:=Fp MX k (by omega);have Hbe:Hid ((kQ MX)[k]?=some (UInt8.ofNat (x.toNat/2^sh))):=ab (by rw[XY,hx,NP];simp[hm4]);have acj:sh≤56:=by omega
     clear XY hx hm4 NP;go_wp2_with fail
     have hv:(B8 (kQ MX))[k]?=some (Value.int IntKind.u8 ((x.toNat:Int)/2^sh%256)):=by
      rw[B8,List.getElem?_map,Hbe.out];show some (Value.int IntKind.u8 ((UInt8.ofNat (x.toNat/2^sh)).toNat:Int))=_;rw[UInt8.toNat_ofNat',Int.natCast_emod,Int.natCast_ediv,Int.natCast_pow];rfl
     exact⟨⟨k+1,by omega,rfl,bn.set OU hv,qk.setCell (p:=⟨gz,k,none⟩) (adi _) _⟩,by simp[intOf];omega⟩
   obtain rfl:k=64:=by omega
   obtain⟨oc,fU⟩:∃oc,oc=(B8 (kQ MX)).toArray:=⟨_,rfl⟩;have rn:(kQ MX).length=64:=by rw[nl,ZW]
   have dv:oc.size=64:=by rw[fU];simp[rn]
   have cG:Hid ((Tryz.prog.info? 45).map (·.size)=some oc.size):=ab (by rw[dv];kernel_rfl);have jy:Hid ((Array.replicate 64 (Value.int .u8 0)).size=oc.size):=ab (by rw[dv];simp);have gn:Hid (oc.all (·.oneCell')=true):=ab (by rw[fU];exact all_oneCell_toArray (aR _));have dW:=bn.done (by simp[rn]);rw[←fU] at dW;have pW:=ab dW;have sk:=ab ((qk.block w.heap.size abN).trans ML.out);have pH:=ab fU;clear dW fU dv bn;go_wp2_with (first|(refine adw rfl 45 (.tmp 18) rfl gz rfl 45 oc (0,0) (.array 64 5) pW.out (by kernel_rfl) rfl cG.out ?_)|(refine ado rfl 45 (.tmp 2) (.tmp 227) rfl w.heap.size oc rfl rfl 45 _ sk.out cG.out jy.out gn.out ?_) );refine adm (v:=.agg oc) ?_ rfl ⟨by rw[pH.out,KI.out],au (hBE.trans (qk.mono (by omega))) (adi _) _⟩;exact adr rfl _ _ w.heap.size 45 oc (0,0) (.array 64 5) rfl (adt _ _ _ _ _ _ sk.out) (by kernel_rfl) rfl cG.out
end Go.Proofs.YtnlkdheaohocnaaGreatDoor
