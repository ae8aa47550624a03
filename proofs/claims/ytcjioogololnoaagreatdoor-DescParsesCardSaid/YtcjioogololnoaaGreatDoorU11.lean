/- Of any text: the program's descriptors and the reference's are read and written alike (DescParses). No condition. -/
import Derived.Test.YtcjioogololnoaaGreatDoorU1
import Derived.Test.YtcjioogololnoaaGreatDoorU10
import Derived.Test.YtcjioogololnoaaGreatDoorShelf
import Derived.Laws.IdiomCopy
import Derived.Laws.Bits64b
set_option maxRecDepth 1000000
set_option maxHeartbeats 16000000
set_option linter.unusedVariables false
set_option linter.unusedSimpArgs false
namespace Go.Proofs.YtcjioogololnoaaGreatDoor
open Go.RowKit Go.Shelf
theorem Ki (x k:Nat) (hx:x<2^256) (hk:k<4):dw (x/2) k=dw x k/2+(if k<3 then dw x (k+1) else 0)%2*9223372036854775808:=by
 rcases (show k=0∨k=1∨k=2∨k=3 by omega) with rfl|rfl|rfl|rfl<;>simp only[dw]<;>simp<;>omega
def ru (x k:Nat):List Nat:=(bC (x/2)).take k++(bC x).drop k
theorem ry (x k:Nat) (hk:k≤4):(ru x k).length=4:=by simp[ru,nY];omega
theorem yY (x k:Nat) (hk:k<4):(ru x k).set k (dw (x/2) k)=ru x (k+1):=by
 rcases (show k=0∨k=1∨k=2∨k=3 by omega) with rfl|rfl|rfl|rfl<;>rfl
theorem CV (x k j:Nat) (hk:k≤j) (hj:j<4) (h:j<(ru x k).length):(ru x k)[j]=dw x j:=by
 rcases (show j=0∨j=1∨j=2∨j=3 by omega) with rfl|rfl|rfl|rfl<;>(rcases (show k=0∨k=1∨k=2∨k=3 by omega) with rfl|rfl|rfl|rfl<;>first|rfl|omega)
theorem Iz (a n:Nat) (ha:a<18446744073709551616):bits .or .u64 ((a:Int)/2) (IntKind.u64.wrap ((n:Int)*9223372036854775808))=((a/2+n%2*9223372036854775808:Nat):Int):=by
 have h1:IntKind.u64.wrap ((n:Int)*9223372036854775808)=((n%2*9223372036854775808:Nat):Int):=by rw[IntKind.wrap_u64];omega
 have h2:(a:Int)/2=((a/2:Nat):Int):=by omega
 rw[h1,h2];have h3:=bits_or_u64_nat (a/2) (n%2*9223372036854775808) (by omega) (by omega)
 have h4:a/2 ||| n%2*9223372036854775808=a/2+n%2*9223372036854775808:=by
  have:=Nat.shiftLeft_add_eq_or_of_lt (show a/2<2^63 by omega) (n%2);rw[Nat.shiftLeft_eq] at this;rw[Nat.or_comm,←this];omega
 rw[h4] at h3;exact h3
theorem yZ (x:Nat) (hx:x<2^256) (w:World):
 Calls Tryz.prog 178 #[.agg (ar x),.int .u64 0] w fun e W'=>e=.returned (.agg (ar (x/2)))∧Below w.heap.size w W':=by
 obtain⟨R,hR⟩:∃R,R=x/2:=⟨_,rfl⟩;rw[←hR];have HR:=aa hR;clear hR;unfold ar;go_enter Tryz.func178,Tryz.ntmps178;go_wp2_with fail;have h2:=iV w (.cells (im (ru x 0)).toArray 140) (.cells (ar 0) 140);obtain⟨W0,aM⟩:∃W0,W0=(w.alloc (.cells (im (ru x 0)).toArray 140)).alloc (.cells (ar 0) 140):=⟨_,rfl⟩;have bL:Below w.heap.size w W0:=by rw[aM];exact((af5 _ w).alloc (af2 _) _).alloc (by simp) _
 refine(show W0=_ from aM)▸?_;rw[←aM] at h2;obtain⟨gX,gO⟩:=h2;obtain⟨B,hB⟩:=ab w.heap.size;rw[←hB] at gX gO⊢;have HB:=aa hB;clear aM hB;go_loopw [7] (fun i wr=>∃k:Nat,k≤4∧i=.int .i64 k∧wr.heap[B]?=some (.cells (im (ru x k)).toArray 140 (0,0))∧wr.heap[B+1]?=some (.cells (ar 0) 140 (0,0))∧Below w.heap.size w wr) (fun i _=>4-(intOf i).toNat)
 case atStart=>exact⟨0,by omega,rfl,gX,gO,bL⟩
 case round=>
  clear gX gO bL;obtain⟨k,hk,rfl,gX,gO,hb⟩:=hrel
  by_cases aL:k<4
  · have c0:=fH gX (k:=k) (by rw[ry _ _ hk];exact aL)
    rw[CV x k k (af2 _) aL] at c0;have zX:=bV gX k;obtain⟨xk,q8⟩:=ab (dw x k);have Kf:xk<18446744073709551616:=by rw[q8];exact kj _ _
    rw[←q8] at c0;have GX:=aa gX;have GO:=aa gO;have Vd:=aa q8;have N5:=Ki x k hx aL;rw[←q8] at N5;clear gO q8
    by_cases h3:k<3
    · have c1:=fH gX (k:=k+1) (by rw[ry _ _ hk];omega)
      rw[CV x k (k+1) (by omega) (by omega)] at c1;obtain⟨xn,hxn⟩:=ab (dw x (k+1));have ac1:xn<18446744073709551616:=by rw[hxn];exact kj _ _
      rw[if_pos h3,←hxn] at N5;rw[←hxn] at c1;have Hhw:=aa N5;clear gX N5 hxn;go_wp2_with fail;rw[Iz xk xn Kf,←Hhw.out];refine⟨⟨k+1,by omega,by go_num,?_,gI GO.out (by omega),hb.setCell (p:=⟨B,k,none⟩) (by show w.heap.size≤B;have:=HB.out;omega) _⟩,by simp[intOf];omega⟩;rw[yd GX.out,yY x k aL]
    obtain rfl:k=3:=by omega
    rw[if_neg h3] at N5;have Hhw:=aa N5;clear gX N5;go_wp2_with fail;rw[show bits .or .u64 ((xk:Int)/2) 0=((xk/2+0%2*9223372036854775808:Nat):Int) from by simpa [IntKind.wrap_u64] using Iz xk 0 Kf,←Hhw.out];refine⟨⟨4,by omega,rfl,?_,gI GO.out (by omega),hb.setCell (p:=⟨B,3,none⟩) (by show w.heap.size≤B;have:=HB.out;omega) _⟩,by simp[intOf]⟩;rw[yd GX.out,yY x 3 aL]
  obtain rfl:k=4:=by omega
  have GX:Hid (wr.heap[B]?=some (.cells (ar R) 140 (0,0))):=aa (by rw[gX,HR.out];rfl);have GO:=aa gO;have pV:=aa (show (Tryz.prog.info? 140).map (·.size)=some (ar R).size by kernel_rfl);clear gX gO;go_wp2_with (first|(refine aga rfl 140 (.tmp 2) rfl B rfl 140 (ar R) (0,0) _ GX.out Tryz.underlying140 rfl pV.out ?_)|(refine af6 rfl 140 (.tmp 4) (.tmp 27) rfl (B+1) (ar R) rfl rfl 140 _ GO.out pV.out rfl (aN _) ?_));refine agf (v:=.agg (ar R)) ?_ rfl ⟨rfl,ah hb (by have:=HB.out;omega) _⟩;exact ags rfl _ _ (B+1) 140 (ar R) (0,0) _ rfl (agd _ _ _ _ _ _ GO.out) Tryz.underlying140 rfl pV.out
def fq (b:List UInt8) (k j:Nat):Nat:=dY (((b.take k).drop (8*(3-j))).take 8)
def iW (b:List UInt8) (k:Nat):List Nat:=[fq b k 0,fq b k 1,fq b k 2,fq b k 3]
theorem Kj (b:List UInt8) (k:Nat) (hk:k<32) (hb:k<b.length):fq b (k+1) (3-k/8)=fq b k (3-k/8)*256+b[k].toNat:=by
 have e:8*(3-(3-k/8))=8*(k/8):=by omega
 have hd:((b.take k).drop (8*(k/8))).length=k-8*(k/8):=by rw[agD,agj];omega
 have h1:((b.take (k+1)).drop (8*(k/8))).take 8=(b.take k).drop (8*(k/8))++[b[k]]:=by
  rw[agh hb,List.drop_append_of_le_length (by rw[agj];omega)];exact af7 (by rw[agc,hd,agk];omega)
 have h2:((b.take k).drop (8*(k/8))).take 8=(b.take k).drop (8*(k/8)):=af7 (by rw[hd];omega);unfold fq;rw[e,h1,h2,vF]
theorem Kk (b:List UInt8) (k j:Nat) (hk:k<32) (hj:j<4) (hb:k<b.length) (dt:j≠3-k/8):fq b (k+1) j=fq b k j:=by
 unfold fq;congr 1;rw[agh hb];rcases (show 8*(3-j)≤k∨k+1≤8*(3-j) by omega) with h|h
 · rw[List.drop_append_of_le_length (by rw[agj];omega),List.take_append_of_le_length (by rw[agD,agj];omega)]
 rw[List.drop_of_length_le (by rw[agc,agj];simp;omega),List.drop_of_length_le (by rw[agj];omega)]
theorem N6 (b:List UInt8) (k:Nat) (hk:k<32) (hb:k<b.length):fq b k (3-k/8)<72057594037927936:=by
 unfold fq;refine agq (lE _) ?_;rw[show (72057594037927936:Nat)=256^7 by decide];exact Nat.pow_le_pow_right (by decide) (by rw[agj,agD,agj];omega)
theorem sQ (b:List UInt8) (k j:Nat) (hj:j<4) (h:j<(iW b k).length):(iW b k)[j]=fq b k j:=by
 rcases (show j=0∨j=1∨j=2∨j=3 by omega) with rfl|rfl|rfl|rfl<;>rfl
theorem Fi (b:List UInt8) (k:Nat) (hk:k<32) (hb:k<b.length):(iW b k).set (3-k/8) (fq b (k+1) (3-k/8))=iW b (k+1):=by
 apply List.ext_getElem (by simp[iW]);intro j h1 h2;have hj:j<4:=by simpa [iW] using h2
 rw[List.getElem_set,sQ b (k+1) j hj];split
 · next h=>rw[h]
 next h=>rw[sQ b k j hj,Kk b k j hk hj hb (fun e=>h e.symm)]
theorem N8 (b:List UInt8) (hl:b.length=32):iW b 32=bC (dY b):=by
 have e:b=b.take 8++((b.drop 8).take 8++((b.drop 16).take 8++b.drop 24)):=by
  rw[show b.drop 24=(b.drop 16).drop 8 by rw[List.drop_drop],agH,show b.drop 16=(b.drop 8).drop 8 by rw[List.drop_drop],agH,agH]
 have hv:wv (iW b 32)=dY b:=by
  have ht:b.take 32=b:=af7 (by omega)
  have h0:fq b 32 0=dY (b.drop 24):=by
   unfold fq;rw[ht,show 8*(3-0)=24 from rfl,af7 (by rw[agD];omega)]
  have h1:fq b 32 1=dY ((b.drop 16).take 8):=by unfold fq;rw[ht]
  have h2:fq b 32 2=dY ((b.drop 8).take 8):=by unfold fq;rw[ht]
  have h3:fq b 32 3=dY (b.take 8):=by unfold fq;rw[ht];rfl
  rw[iW,h0,h1,h2,h3]
  conv=>rhs;rw[e]
  rw[km,km,km];simp only[wv,agc,agj,agD,hl];simp only[show min 8 (32-8)=8 by decide,show min 8 (32-16)=8 by decide,show min 8 32=8 by decide];omega
 rw[←hv];refine(rn _ rfl ?_).symm
 have aL:∀j,fq b 32 j<18446744073709551616:=fun j=>by
  unfold fq;refine agq (lE _) ?_;rw[show (18446744073709551616:Nat)=256^8 by decide];exact Nat.pow_le_pow_right (by decide) (by rw[agj];omega)
 simp only[iW,List.mem_cons,List.not_mem_nil,or_false];rintro x (rfl|rfl|rfl|rfl)<;>exact aL _
theorem SN (a c:Nat) (ha:a<72057594037927936) (hc:c<256):bits .or .u64 ((a:Int)*256) (c:Int)=((a*256+c:Nat):Int):=by
 have h1:(a:Int)*256=((a*256:Nat):Int):=by omega
 rw[h1];have h3:=bits_or_u64_nat (a*256) c (by omega) (by omega)
 have h4:a*256 ||| c=a*256+c:=by
  have:=Nat.shiftLeft_add_eq_or_of_lt (show c<2^8 by omega) a;rw[Nat.shiftLeft_eq] at this;exact this.symm
 rw[h4] at h3;exact h3
theorem vK (A:Option Addr) (c:Nat) (b:List UInt8) (hl:b.length=32) (w:World) (hs:Sl w w.heap.size A (B8 b)):
 Calls Tryz.prog 138 #[.slice A 32 c] w fun e W'=>e=.returned (.agg (ar (dY b)))∧Below w.heap.size w W':=by
 obtain⟨b0,o0,rfl,bL,aD⟩:=hs (by rw[B8_length,hl];omega);obtain⟨R,hR⟩:=ab (dY b);rw[←hR];have HR:=aa hR;clear hR;have Hl:=aa hl;have jk:=aa aD;clear hl aD hs;go_enter Tryz.func138,Tryz.ntmps138;go_wp2_with fail;have h2:=iV w (.cells (ar 0) 140) (.cells (im (iW b 0)).toArray 140);obtain⟨W0,aM⟩:∃W0,W0=(w.alloc (.cells (ar 0) 140)).alloc (.cells (im (iW b 0)).toArray 140):=⟨_,rfl⟩;have qw:Below w.heap.size w W0:=by rw[aM];exact((af5 _ w).alloc (af2 _) _).alloc (by simp) _
 refine(show W0=_ from aM)▸?_;rw[←aM] at h2;obtain⟨gO,gX⟩:=h2;obtain⟨B,hB⟩:=ab w.heap.size;rw[←hB] at gX gO⊢;have HB:=aa hB;clear aM hB;go_loopw [9] (fun i wr=>∃k:Nat,k≤32∧i=.int .i64 k∧wr.heap[B+1]?=some (.cells (im (iW b k)).toArray 140 (0,0))∧wr.heap[B]?=some (.cells (ar 0) 140 (0,0))∧Below w.heap.size w wr) (fun i _=>32-(intOf i).toNat)
 case atStart=>exact⟨0,by omega,rfl,gX,gO,qw⟩
 case round=>
  clear gX gO qw;obtain⟨k,hk,rfl,gX,gO,hb⟩:=hrel
  by_cases aL:k<32
  · have JG:k<b.length:=by rw[Hl.out];exact aL
    obtain⟨y,hy⟩:∃y,y=b[k]:=⟨_,rfl⟩;have cB:wr.cell? ⟨b0,o0+k,none⟩=some (.int .u8 (y.toNat:Int)):=by rw[hb.cell (p:=⟨b0,o0+k,none⟩) bL,jk.out k (by simpa using JG),hy];simp[B8]
    obtain⟨j,hj⟩:∃j,j=3-k/8:=⟨_,rfl⟩;have hj4:j<4:=by omega
    have hjI:(3:Int)-(k:Int)/8=(j:Int):=by omega
    have cX:=fH gX (k:=j) (by simp[iW];exact hj4);rw[sQ b k j hj4] at cX;obtain⟨v,hv⟩:=ab (fq b k j);rw[←hv] at cX;have ac2:v<72057594037927936:=by rw[hv,hj];exact N6 b k aL JG
    have jg:fq b (k+1) j=v*256+y.toNat:=by rw[hv,hy,hj];exact Kj b k aL JG
    have kn:=Fi b k aL JG;rw[←hj,jg] at kn;have zX:=bV gX j;have CW:=y.toNat_lt;have GX:=aa gX;have GO:=aa gO;have vL:=aa kn;clear gX gO kn jg hv hy hj;go_wp2_with fail;rw[SN v y.toNat ac2 CW];refine⟨⟨k+1,by omega,by go_num,?_,gI GO.out (by omega),hb.setCell (p:=⟨B+1,j,none⟩) (by show w.heap.size≤B+1;have:=HB.out;omega) _⟩,by simp[intOf];omega⟩;rw[yd GX.out,vL.out]
  obtain rfl:k=32:=by omega
  have GX:Hid (wr.heap[B+1]?=some (.cells (ar R) 140 (0,0))):=aa (by rw[gX,N8 b Hl.out,HR.out];rfl);have GO:=aa gO;have pV:=aa (show (Tryz.prog.info? 140).map (·.size)=some (ar R).size by kernel_rfl);clear gX gO;go_wp2_with (first|(refine aga rfl 140 (.tmp 3) rfl (B+1) rfl 140 (ar R) (0,0) _ GX.out Tryz.underlying140 rfl pV.out ?_)|(refine af6 rfl 140 (.tmp 2) (.tmp 27) rfl B (ar R) rfl rfl 140 _ GO.out pV.out rfl (aN _) ?_));refine agf (v:=.agg (ar R)) ?_ rfl ⟨rfl,ah hb (by have:=HB.out;omega) _⟩;exact ags rfl _ _ B 140 (ar R) (0,0) _ rfl (agd _ _ _ _ _ _ GO.out) Tryz.underlying140 rfl pV.out
theorem lF (n k:Nat) (hk:k<4) (w:World):(Instr.index 140 (.agg #[.int .u64 (dw n 0:Nat),.int .u64 (dw n 1:Nat),.int .u64 (dw n 2:Nat),.int .u64 (dw n 3:Nat)]) (.int .i64 (k:Int))).run Tryz.prog w=.ok (.int .u64 (dw n k:Nat)) w:=by
 have hsz:(sizeOf 78).run Tryz.prog w=.ok 1 w:=by
  have hi:(Tryz.prog.info? 78).map (·.size)=some 1:=by kernel_rfl
  cases hq:Tryz.prog.info? 78 with
  |none=>simp[hq] at hi
  |some i=>simp[hq] at hi;simp[sizeOf,typeInfo,hq,hi]
 have Xd:(isAgg 78).run Tryz.prog w=.ok false w:=by
  unfold isAgg;rw[Sem.run_bind,run_underlying Tryz.underlying78 w];rfl
 have hn:=Tryz.underlying140;rcases (show k=0∨k=1∨k=2∨k=3 by omega) with rfl|rfl|rfl|rfl<;>simp[Instr.index,asIntOf,run_underlying hn,hsz,part,Xd,go_sem]
theorem ko (x y:Nat) (w:World):(callFunc 204 #[.int .u64 x,.int .u64 y,.int .u64 0]).run Tryz.prog w=
 .ok (.value (.tuple #[.int .u64 (((x+y)%18446744073709551616:Nat):Int),.int .u64 (((x+y)/18446744073709551616:Nat):Int)])) w:=yU x y 0 (by omega) w
theorem Kl (i k:Nat):2^(64*(i+k))=2^(64*k)*2^(64*i):=by rw[←Nat.pow_add];congr 1;omega
theorem vM (T Y:List Nat) (i k a c c' t' S:Nat) (hT:i+k<T.length) (hY:k<Y.length) (he:t'+18446744073709551616*c'=T[i+k]+a*Y[k]+c)
 (h:wv T+c*2^(64*(i+k))=S+a*wv (Y.take k)*2^(64*i)):wv (T.set (i+k) t')+c'*2^(64*(i+(k+1)))=S+a*wv (Y.take (k+1))*2^(64*i):=by
 have h1:=Iv T (i+k) hT (a*Y[k]) c c' t' he;rw[show i+(k+1)=i+k+1 by omega,h1,j3 Y k hY]
 have e1:a*(wv (Y.take k)+Y[k]*2^(64*k))*2^(64*i)=a*wv (Y.take k)*2^(64*i)+a*Y[k]*2^(64*(i+k)):=by
  rw[Kl i k,Nat.mul_add,Nat.add_mul,←Nat.mul_assoc a Y[k],Nat.mul_assoc (a*Y[k])]
 rw[e1];omega
theorem Oa (g o m:Nat) (d:List Nat) (x y:Nat) (hx:x<2^256) (hy:y<2^256) (w:World) (hF:FieldAt w g o m d)
 (Vn:∀(T:List Nat) (W:World),T.length=8→(∀t∈T,t<18446744073709551616)→FieldAt W g o m d→Calls Tryz.prog 205 #[.pointer (some ⟨g,o,none⟩),.agg (im T).toArray] W fun e W'=>e=.returned (.agg (ar (wv T%m)))∧Below W.heap.size W W'):
 Calls Tryz.prog 175 #[.pointer (some ⟨g,o,none⟩),.agg (ar x),.agg (ar y)] w fun e W'=>e=.returned (.agg (ar (x*y%m)))∧Below w.heap.size w W':=by
 have pq:=hF.1;have aaH:=aa Vn;clear Vn;obtain⟨R,hR⟩:∃R,R=x*y%m:=⟨_,rfl⟩;rw[←hR];have HR:=aa hR;clear hR;unfold ar;go_enter Tryz.func175,Tryz.ntmps175;go_wp2_with fail;have h4:=jH w (.cells (ar x) 140) (.cells (ar y) 140) (.cells (ar 0) 140) (.cells (im (List.replicate 8 0)).toArray 255);obtain⟨W0,aM⟩:∃W0,W0=((((w.alloc (.cells (ar x) 140)).alloc (.cells (ar y) 140)).alloc (.cells (ar 0) 140)).alloc (.cells (im (List.replicate 8 0)).toArray 255)):=⟨_,rfl⟩;have bL:Below w.heap.size w W0:=by rw[aM];exact((((af5 _ w).alloc (af2 _) _).alloc (by simp) _).alloc (by simp;omega) _).alloc (by simp;omega) _
 refine(show W0=_ from aM)▸?_;rw[←aM] at h4;obtain⟨gX,gY,gO,gT⟩:=h4;obtain⟨B,hB⟩:=ab w.heap.size;rw[←hB] at gX gY gO gT⊢;have HB:=aa hB;clear aM hB gX
 go_loopw [17] (fun iv wr=>∃(i:Nat) (T:List Nat),i≤4∧iv=.int .i64 i∧Hid (T.length=8∧(∀t∈T,t<18446744073709551616)∧(∀j,i+4≤j→j<8→T[j]?=some 0)∧wv T=wv ((bC x).take i)*y)∧
  wr.heap[B+1]?=some (.cells (ar y) 140 (0,0))∧wr.heap[B+1+1]?=some (.cells (ar 0) 140 (0,0))∧wr.heap[B+1+1+1]?=some (.cells (im T).toArray 255 (0,0))∧Below w.heap.size w wr) (fun iv _=>4-(intOf iv).toNat)
 case atStart=>exact⟨0,List.replicate 8 0,by omega,rfl,aa ⟨rfl,by simp,fun j _ hj=>by rw[List.getElem?_replicate,if_pos hj],by rw[NQ];simp[wv]⟩,gY,gO,gT,bL⟩
 case round=>
  clear gY gO gT bL;obtain⟨i,T,hi,rfl,HT,gY,gO,gT,hb⟩:=hrel
  by_cases aL:i<4
  · obtain⟨a,ha⟩:=ab (dw x i)
    have Ob:a<18446744073709551616:=by rw[ha];exact kj _ _
    have mM:=fun ww=>lF x i aL ww
    simp only[←ha] at mM;obtain⟨y0,y1,y2,y3⟩:=jq gY;have Ha:=aa ha;have GY:=aa gY;have GO:=aa gO;have GT:=aa gT;obtain⟨S,hS⟩:=ab (wv T);have HS:=aa hS;have HS6:Hid (S=wv ((bC x).take i)*y):=aa (by rw[hS];exact HT.out.2.2.2);clear ha hS;go_wp2_with fail;clear y0 y1 y2 y3 mM;rw[show decide ((i:Int)<4)=true from af9 (by omega)]
    go_loopw [10,22] (fun cv kv wk=>∃(k c:Nat) (U:List Nat),k≤4∧kv=.int .i64 k∧cv=.int .u64 c∧c<18446744073709551616∧Hid (U.length=8∧(∀t∈U,t<18446744073709551616)∧(∀j,i+4≤j→j<8→U[j]?=some 0)∧wv U+c*2^(64*(i+k))=S+a*wv ((bC y).take k)*2^(64*i))∧
     wk.heap[B+1]?=some (.cells (ar y) 140 (0,0))∧wk.heap[B+1+1]?=some (.cells (ar 0) 140 (0,0))∧wk.heap[B+1+1+1]?=some (.cells (im U).toArray 255 (0,0))∧Below w.heap.size w wk) (fun _ kv _=>4-(intOf kv).toNat)
    case atStart=>exact⟨0,0,T,by omega,rfl,rfl,by omega,aa ⟨HT.out.1,HT.out.2.1,HT.out.2.2.1,by rw[HS.out];simp[wv]⟩,gY,gO,gT,hb⟩
    case round=>
     clear gY gO gT hb HT;obtain⟨k,c,U,hk,rfl,rfl,hc,HU,gY,gO,gT,hb⟩:=hrel
     by_cases XM:k<4
     · obtain⟨b,nC⟩:=ab (dw y k)
       have Km:b<18446744073709551616:=by rw[nC];exact kj _ _
       have mM:=fun ww=>lF y k XM ww
       simp only[←nC] at mM;have IA:=aa nC;obtain⟨j,hj⟩:∃j,j=i+k:=⟨_,rfl⟩;have Rn:j<8:=by omega
       have hjI:(i:Int)+(k:Int)=(j:Int):=by omega
       have Oc:j<U.length:=by rw[HU.out.1];exact Rn
       have cT:=fH gT (k:=j) Oc;have zT:=bV gT j;have XN:U[j]=U.getD j 0:=by simp[Oc]
       obtain⟨t,ht⟩:∃t:Nat,t=U.getD j 0:=⟨_,rfl⟩;have JV:t<18446744073709551616:=by rw[ht,←XN];exact HU.out.2.1 _ (agl _)
       rw[XN,←ht] at cT;obtain⟨m1,m2,m3⟩:=mac a b c t Ob Km hc JV;have Fj:=fun ww=>Tryz.bits_Mul64 a b Ob Km ww
       obtain⟨hi,CX⟩:∃hi,hi=a*b/18446744073709551616:=⟨_,rfl⟩;obtain⟨lo,oY⟩:∃lo,lo=a*b%18446744073709551616:=⟨_,rfl⟩;rw[←CX,←oY] at m1 m2 m3;simp only[←CX,←oY] at Fj;have hA1:=fun ww=>ko lo c ww
       obtain⟨l1,j7⟩:∃l1,l1=(lo+c)%18446744073709551616:=⟨_,rfl⟩;obtain⟨c1,dW⟩:∃c1,c1=(lo+c)/18446744073709551616:=⟨_,rfl⟩;rw[←j7,←dW] at m2 m3;rw[←dW] at m1;simp only[←j7,←dW] at hA1;have Vo:=fun ww=>ko t l1 ww
       obtain⟨t1,qT⟩:∃t1,t1=(t+l1)%18446744073709551616:=⟨_,rfl⟩;obtain⟨c2,ez⟩:∃c2,c2=(t+l1)/18446744073709551616:=⟨_,rfl⟩;rw[←ez] at m2;rw[←qT,←ez] at m3;simp only[←qT,←ez] at Vo;have CY:t1<18446744073709551616:=by rw[qT];exact Nat.mod_lt _ (by decide)
       have XO:=aa Fj;have M3:=aa m3;have Hj:=aa hj;have Ht:=aa ht;have GY:=aa gY;have GO:=aa gO;have GT:=aa gT;clear nC hj ht CX oY j7 dW qT ez m3 Fj gY gO gT Oc XN;go_wp2_with (go_at_call 203;refine(XO.out _).mono ?_;rintro e w' ⟨rfl,bD⟩;rw[bD];clear bD);refine⟨⟨k+1,hi+c1+c2,U.set j t1,by omega,by go_num,by go_num,m2,aa ⟨by simpa using HU.out.1,fun q hq=>?_,fun q hq hq8=>?_,?_⟩,gI GY.out (by omega),gI GO.out (by omega),yd GT.out,hb.setCell (p:=⟨B+1+1+1,j,none⟩) (by show w.heap.size≤B+1+1+1;have:=HB.out;omega) _⟩,by simp[intOf];omega⟩
       · rcases List.mem_or_eq_of_mem_set hq with h|h
         · exact HU.out.2.1 q h
         exact h▸CY
       · rw[List.getElem?_set_ne (by have:=Hj.out;omega)]
         exact HU.out.2.2.1 q hq hq8
       have hjj:=Hj.out;have htt:=Ht.out;have hUl:=HU.out.1;subst hjj;refine vM U (bC y) i k a c _ t1 S (by omega) XM ?_ HU.out.2.2.2;have e1:U[i+k]'(by omega)=t:=by rw[htt];simp[show i+k<U.length by omega]
       have e2:(bC y)[k]'XM=b:=by
        rw[IA.out];rcases (show k=0∨k=1∨k=2∨k=3 by omega) with rfl|rfl|rfl|rfl<;>rfl
       rw[e1,e2];exact M3.out
     obtain rfl:k=4:=by omega
     obtain⟨q,hq⟩:∃q,q=i+4:=⟨_,rfl⟩;have hq8:q<8:=by omega
     have hqI:(i:Int)+4=(q:Int):=by omega
     have cT:=fH gT (k:=q) (by rw[HU.out.1];exact hq8);have zT:=bV gT q;have hU0:U[q]?=some 0:=HU.out.2.2.1 q (by omega) hq8;have Hq:=aa hq;have Od:=aa hU0;have GY:=aa gY;have GO:=aa gO;have GT:=aa gT;clear hq hU0 gY gO gT;go_wp2_with fail;refine⟨⟨i+1,U.set q c,by omega,by go_num,aa ⟨by simpa using HU.out.1,fun r hr=>?_,fun r hr Vp=>?_,?_⟩,gI GY.out (by omega),gI GO.out (by omega),yd GT.out,hb.setCell (p:=⟨B+1+1+1,q,none⟩) (by show w.heap.size≤B+1+1+1;have:=HB.out;omega) _⟩,by simp[intOf];omega⟩
     · rcases List.mem_or_eq_of_mem_set hr with h|h
       · exact HU.out.2.1 r h
       exact h▸hc
     · rw[List.getElem?_set_ne (by have:=Hq.out;omega)]
       exact HU.out.2.2.1 r (by omega) Vp
     have h1:=HU.out.2.2.2;have SE:q<U.length:=by rw[HU.out.1];exact hq8
     have h2:=Fe U q SE c;have h3:U[q]=0:=by have:=Od.out;rw[age SE] at this;exact Option.some.inj this
     rw[h3] at h2;have hqq:=Hq.out;rw[←hqq,show (bC y).take 4=bC y from rfl,iU y hy] at h1
     have h5:wv ((bC x).take (i+1))=wv ((bC x).take i)+a*2^(64*i):=by
      rw[j3 (bC x) i aL];congr 2;rw[Ha.out];rcases (show i=0∨i=1∨i=2∨i=3 by omega) with rfl|rfl|rfl|rfl<;>rfl
     rw[h5,Nat.add_mul,Nat.mul_right_comm];have h6:=HS6.out;omega
  obtain rfl:i=4:=by omega
  have hTx:wv T=x*y:=by rw[HT.out.2.2.2,show (bC x).take 4=bC x from rfl,iU x hx]
  have nM:=aaH.out T wr HT.out.1 HT.out.2.1 (hF.below hb pq);rw[hTx,←HR.out] at nM;obtain⟨cs,bB⟩:∃cs,cs=(im T).toArray:=⟨_,rfl⟩;have dX:cs.size=8:=by rw[bB,List.size_toArray,U64_length,HT.out.1]
  have lW:Hid ((Tryz.prog.info? 255).map (·.size)=some cs.size):=aa (by rw[dX];kernel_rfl);rw[←bB] at gT nM;have pV:=aa (show (Tryz.prog.info? 140).map (·.size)=some (ar R).size by kernel_rfl);have nx:=aa nM;have GT:=aa gT;have GO:=aa gO;have Rr:=aa (af3.1 gO).1;clear bB dX gT gO gY hTx nM;go_wp2_with (refine aga rfl 255 (.tmp 7) rfl (B+1+1+1) rfl 255 cs (0,0) _ GT.out Tryz.underlying255 rfl lW.out ?_);refine nx.out.mono ?_;rintro e w2 ⟨rfl,bt⟩;have vJ:=aa ((bt.block (B+1+1) Rr.out).trans GO.out);have kN:=hb.trans (bt.mono hb.size);clear bt;go_wp2_with (refine af6 rfl 140 (.tmp 6) (.tmp 66) rfl (B+1+1) (ar R) rfl rfl 140 _ vJ.out pV.out rfl (aN _) ?_);refine agf (v:=.agg (ar R)) ?_ rfl ⟨rfl,ah kN (by have:=HB.out;omega) _⟩;exact ags rfl _ _ (B+1+1) 140 (ar R) (0,0) _ rfl (agd _ _ _ _ _ _ vJ.out) Tryz.underlying140 rfl pV.out
def XP (w:World) (g:Nat):Nat:=match w.heap[g]? with
 |some (.cells cs _ _)=>wv (cs.toList.map fun v=>(intOf v).toNat)
 |_=>0
theorem IB {w:World} {g t:Nat} {T:List Nat} {fr:Nat×Nat} (h:w.heap[g]?=some (.cells (im T).toArray t fr)):XP w g=wv T:=by
 unfold XP;rw[h];simp only[im,List.map_map];congr 1;refine(List.map_congr_left (fun x _=>?_)).trans (List.map_id T);simp[Function.comp,intOf]
theorem CZ (d0 d1 d2:Nat) (k:Nat) (hk:k<3) (w:World):(Instr.index 181 (.agg #[.int .u64 (d0:Int),.int .u64 (d1:Int),.int .u64 (d2:Int)]) (.int .i64 (k:Int))).run Tryz.prog w=.ok (.int .u64 (([d0,d1,d2].getD k 0:Nat):Int)) w:=by
 have hsz:(sizeOf 78).run Tryz.prog w=.ok 1 w:=by
  have hi:(Tryz.prog.info? 78).map (·.size)=some 1:=by kernel_rfl
  cases hq:Tryz.prog.info? 78 with
  |none=>simp[hq] at hi
  |some i=>simp[hq] at hi;simp[sizeOf,typeInfo,hq,hi]
 have Xd:(isAgg 78).run Tryz.prog w=.ok false w:=by
  unfold isAgg;rw[Sem.run_bind,run_underlying Tryz.underlying78 w];rfl
 have hn:=Tryz.underlying181;rcases (show k=0∨k=1∨k=2 by omega) with rfl|rfl|rfl<;>simp[Instr.index,asIntOf,run_underlying hn,hsz,part,Xd,go_sem]
theorem Oe (T:List Nat) (hl:T.length=8) (h:∀t∈T,t<18446744073709551616):∃L H,L<2^256∧H<2^256∧T=bC L++bC H∧wv T=L+2^256*H:=by
 have e:=(agH 4 T).symm;have l1:(T.take 4).length=4:=by rw[agj];omega
 have l2:(T.drop 4).length=4:=by rw[agD];omega
 have h1:=rn _ l1 (fun x hx=>h x (List.mem_of_mem_take hx));have h2:=rn _ l2 (fun x hx=>h x (List.mem_of_mem_drop hx));have b1:=yT (T.take 4) (fun x hx=>h x (List.mem_of_mem_take hx));have b2:=yT (T.drop 4) (fun x hx=>h x (List.mem_of_mem_drop hx));rw[l1] at b1;rw[l2] at b2;refine⟨wv (T.take 4),wv (T.drop 4),b1,b2,by rw[h1,h2];exact e,?_⟩
 conv=>lhs;rw[e]
 rw[sO,l1]
theorem Of (a b c d:Nat):a ||| b ||| c ||| d=0↔a=0∧b=0∧c=0∧d=0:=by
 rw[Nat.or_eq_zero_iff,Nat.or_eq_zero_iff,Nat.or_eq_zero_iff];omega
theorem Kn (H:Nat) (h:H<2^256):(dw H 0=0∧dw H 1=0∧dw H 2=0∧dw H 3=0)↔H=0:=by
 constructor
 · rintro⟨h0,h1,h2,h3⟩
   have:=iU H h;simp only[bC,h0,h1,h2,h3,wv] at this;omega
 rintro rfl;exact⟨rfl,rfl,rfl,rfl⟩
theorem C3 (T:List Nat) (h:T.length=3):∃a b c,T=[a,b,c]:=by
 match T,h with
 |[a,b,c],_=>exact⟨a,b,c,rfl⟩
set_option exponentiation.threshold 1000 in
theorem C6 (S c q V:Nat) (h:S+c*2^(64*q)=V) (hV:V<2^448) (hc:c≠0):q<7:=by
 refine Nat.lt_of_not_le (fun hq=>?_);have h1:2^448≤2^(64*q):=Nat.pow_le_pow_right (by omega) (by omega);have h2:2^(64*q)≤c*2^(64*q):=Nat.le_mul_of_pos_left _ (by omega);omega
set_option exponentiation.threshold 1000 in
theorem Fk (L D:Nat) (Hs:List Nat) (hL:L<2^256) (hD:D<2^130) (hl:Hs.length≤4) (hw:∀x∈Hs,x<18446744073709551616):L+wv Hs*D<2^448:=by
 have h1:=yT Hs hw;have h2:2^(64*Hs.length)≤2^256:=Nat.pow_le_pow_right (by omega) (by omega);have h3:wv Hs*D≤2^256*2^130:=Nat.mul_le_mul (by omega) (by omega);omega
theorem AE (H i a:Nat) (hi:i<4) (ha:a=dw H i):wv ((bC H).take (i+1))=wv ((bC H).take i)+a*2^(64*i):=by
 rw[j3 (bC H) i hi];congr 2;rw[ha];rcases (show i=0∨i=1∨i=2∨i=3 by omega) with rfl|rfl|rfl|rfl<;>rfl
theorem rz {P:Program} (w:World) (b o:Nat) (ty:TypeId) (v c:Value) (hc:w.cell? ⟨b,o,none⟩=some c) (hz:w.frozen? ⟨b,o,none⟩=false) (hi:(P.info? ty).map (·.size)=some 1) (h1:v.oneCell'=true):
 (storeVar ty ⟨b,o,none⟩ v).run P w=.ok () (w.setCell ⟨b,o,none⟩ v):=by
 have:=run_storeCells_cells (P:=P) b o [v] 0 w (fun j hj=>by(have h0:j=0:=by simpa using hj);subst h0;simp[hc]) (fun j hj=>by(have h0:j=0:=by simpa using hj);subst h0;simpa using hz) (fun x hx=>by simp at hx;subst hx;exact h1);have bB:v.cells=#[v]:=by cases v<;>first|rfl|cases h1
 cases hq:P.info? ty with
 |none=>simp[hq] at hi
 |some i=>
  have hs:i.size=1:=by simpa [hq] using hi
  simp[storeVar,sizeOf,typeInfo,hq,bB,hs,this,World.setCells]
theorem ga {P:Program} {ops:Array Oper} {rest:List Oper} {o:Oper} {a:Act} {w:World} {Q:Exit→Act→World→Prop} (tF:o.guard=none) (ty:TypeId) (x y:Operand) (ho:o.op=.store ty x y) (hd:o.dst=none)
 (g k t v:Nat) (T:List Nat) (hx:a.eval x=.pointer (some ⟨g,k,none⟩)) (hy:a.eval y=.int .u64 (v:Int)) (hg:w.heap[g]?=some (.cells (im T).toArray t (0,0))) (hk:k<T.length) (hi:(P.info? ty).map (·.size)=some 1)
 (h:∀w',w'.heap[g]?=some (.cells (im (T.set k v)).toArray t (0,0))→(∀q ob,q≠g→w.heap[q]?=some ob→w'.heap[q]?=some ob)→(∀n w0,n≤g→Below n w0 w→Below n w0 w')→wpList P ops Q rest a w'):wpList P ops Q (o::rest) a w:=
 wpList_plain tF fun _ hK=>by
  unfold Oper.wp execOp;simp only[ho,hx,hy,Instr.storeAt,Instr.sureAddr,Sem.run_bind,Sem.run_pure,Result.andThen_ok,rz w g k ty (.int .u64 (v:Int)) _ (fH hg hk) (bV hg k) hi rfl];refine hK _ _ ?_;rw[hd];exact h _ (yd hg) (fun q ob hq hob=>gI hob hq) (fun n w0 hn hb=>hb.setCell (p:=⟨g,k,none⟩) hn _)
set_option exponentiation.threshold 1000 in
theorem Ko (g o m:Nat) (d:List Nat) (hd:uZ m d) (hm:m<2^256) (V:List Nat) (hV:V.length=8) (aaI:∀t∈V,t<18446744073709551616) (w:World) (hF:FieldAt w g o m d):
 Calls Tryz.prog 205 #[.pointer (some ⟨g,o,none⟩),.agg (im V).toArray] w fun e W'=>e=.returned (.agg (ar (wv V%m)))∧Below w.heap.size w W':=by
 have pq:=hF.1;obtain⟨d0,d1,d2,rfl⟩:=C3 d hd.1;obtain⟨R,hR⟩:∃R,R=wv V%m:=⟨_,rfl⟩;rw[←hR];have HR:=aa hR;obtain⟨cs,bB⟩:∃cs,cs=(im V).toArray:=⟨_,rfl⟩;rw[←bB];have dX:cs.size=8:=by rw[bB,List.size_toArray,U64_length,hV]
 have oX:=aa bB;have HVl:=aa hV;have ac3:=aa aaI;have Hd:=aa hd;have Hm:=aa hm;clear hm;clear hR bB hV aaI hd;go_enter Tryz.func205,Tryz.ntmps205;go_wp2_with (refine wpList_boxTo rfl 255 (.tmp 1) rfl _ rfl w.heap.size rfl cs rfl ?_);have h2:=iV w (.cells cs 255) (.cells (ar 0) 140);obtain⟨W0,aM⟩:∃W0,W0=(w.alloc (.cells cs 255)).alloc (.cells (ar 0) 140):=⟨_,rfl⟩;have bL:Below w.heap.size w W0:=by rw[aM];exact((af5 _ w).alloc (af2 _) _).alloc (by simp) _
 refine(show W0=_ from aM)▸?_;rw[←aM] at h2;obtain⟨gT,gO⟩:=h2;rw[oX.out] at gT;obtain⟨B,hB⟩:=ab w.heap.size;rw[←hB] at gT gO⊢;have HB:=aa hB;clear aM hB dX;go_loopw [26] (fun _ wr=>∃T:List Nat,Hid (T.length=8∧(∀t∈T,t<18446744073709551616)∧wv T%m=R)∧wr.heap[B]?=some (.cells (im T).toArray 255 (0,0))∧wr.heap[B+1]?=some (.cells (ar 0) 140 (0,0))∧Below w.heap.size w wr) (fun _ wr=>XP wr B)
 case atStart=>exact⟨V,aa ⟨HVl.out,ac3.out,HR.out.symm⟩,gT,gO,bL⟩
 case round=>
  clear gT gO bL;obtain⟨T,HT,gT,gO,hb⟩:=hrel;obtain⟨L,H,hL,hH,hTe,hTv⟩:=Oe T HT.out.1 HT.out.2.1;have aF:=IB gT;rw[hTe] at gT;have e4:=fH gT (k:=4) (by simp[bC]);have e5:=fH gT (k:=5) (by simp[bC]);have e6:=fH gT (k:=6) (by simp[bC]);have e7:=fH gT (k:=7) (by simp[bC]);have c4:wr.cell? ⟨B,4,none⟩=some (.int .u64 (dw H 0:Nat)):=e4;have c5:wr.cell? ⟨B,5,none⟩=some (.int .u64 (dw H 1:Nat)):=e5;have c6:wr.cell? ⟨B,6,none⟩=some (.int .u64 (dw H 2:Nat)):=e6;have c7:wr.cell? ⟨B,7,none⟩=some (.int .u64 (dw H 3:Nat)):=e7;have z4:=bV gT 4;have z5:=bV gT 5;have z6:=bV gT 6;have z7:=bV gT 7;have jc:=u64_or_nat (dw H 0) (dw H 1) (kj _ _) (kj _ _);have n1:dw H 0 ||| dw H 1<18446744073709551616:=Nat.or_lt_two_pow (n:=64) (kj _ _) (kj _ _);have nB:=u64_or_nat (dw H 0 ||| dw H 1) (dw H 2) n1 (kj _ _);have n2:dw H 0 ||| dw H 1 ||| dw H 2<18446744073709551616:=Nat.or_lt_two_pow (n:=64) n1 (kj _ _);have cZ:=u64_or_nat (dw H 0 ||| dw H 1 ||| dw H 2) (dw H 3) n2 (kj _ _);obtain⟨N,hN⟩:∃N,N=dw H 0 ||| dw H 1 ||| dw H 2 ||| dw H 3:=⟨_,rfl⟩;rw[←hN] at cZ;have IC:N=0↔H=0:=by rw[hN,Of,Kn H hH]
  have HTv:=aa hTv;have eC:=aa aF;have GT:=aa gT;have GO:=aa gO;clear e4 e5 e6 e7 n1 n2 hN hTv hTe aF gT gO
  by_cases h0:H=0
  · have hNz:=IC.2 h0
    subst hNz;clear IC;have JL:=hF.below hb pq;have c0:wr.cell? ⟨B,0,none⟩=some (.int .u64 (dw L 0:Nat)):=fH GT.out (k:=0) (by simp[bC]);have c1:wr.cell? ⟨B,1,none⟩=some (.int .u64 (dw L 1:Nat)):=fH GT.out (k:=1) (by simp[bC]);have c2:wr.cell? ⟨B,2,none⟩=some (.int .u64 (dw L 2:Nat)):=fH GT.out (k:=2) (by simp[bC]);have c3:wr.cell? ⟨B,3,none⟩=some (.int .u64 (dw L 3:Nat)):=fH GT.out (k:=3) (by simp[bC]);have pV:=aa (show (Tryz.prog.info? 140).map (·.size)=some (ar R).size by kernel_rfl);have Rr:=aa (af3.1 GO.out).1
    have HLR:Hid ((if L<m then L else L-m)=R):=aa (by
     rw[NS m _ L Hd.out.2.2.1 Hd.out.2.2.2.1 hL,←HT.out.2.2,HTv.out,h0,Nat.mul_zero,Nat.add_zero])
    have kP:=aa (Ix g o m [d0,d1,d2] L hL Hm.out wr JL);rw[HLR.out] at kP;clear JL;go_wp2_with fail;refine kP.out.mono ?_;rintro e w2 ⟨rfl,bt⟩;have vJ:=aa ((bt.block (B+1) Rr.out).trans GO.out);have kN:=hb.trans (bt.mono hb.size);clear bt kP;go_wp2_with (refine af6 rfl 140 (.tmp 4) (.tmp 113) rfl (B+1) (ar R) rfl rfl 140 _ vJ.out pV.out rfl (aN _) ?_);refine agf (v:=.agg (ar R)) ?_ rfl ⟨rfl,ah kN (by have:=HB.out;omega) _⟩;exact ags rfl _ _ (B+1) 140 (ar R) (0,0) _ rfl (agd _ _ _ _ _ _ vJ.out) Tryz.underlying140 rfl pV.out
  have hNz:¬((N:Int)=0):=by have:=fun h=>h0 (IC.1 h);omega
  have Hh0:=aa (Nat.pos_of_ne_zero h0);clear IC h0;have hBw:w.heap.size≤B:=by have:=HB.out;omega
  have hOB:B+1≠B:=by omega
  go_wp2_with (first|(refine af6 rfl 140 (.tmp 5) (.tmp 35) rfl wr.heap.size (ar H) rfl rfl 140 _ (af4 wr _) (by kernel_rfl) rfl (aN _) ?_;rw[agi];obtain⟨W1,kK⟩:=ab (wr.alloc (.cells (ar H) 140));rw[←kK];obtain⟨gh,qp⟩:=ab wr.heap.size;rw[←qp];have gT1:W1.heap[B]?=some (.cells (im (bC L++bC H)).toArray 255 (0,0)):=(by rw[kK];exact eV GT.out);have gO1:W1.heap[B+1]?=some (.cells (ar 0) 140 (0,0)):=(by rw[kK];exact eV GO.out);have gH1:W1.heap[gh]?=some (.cells #[.int .u64 (dw H 0:Nat),.int .u64 (dw H 1:Nat),.int .u64 (dw H 2:Nat),.int .u64 (dw H 3:Nat)] 140 (0,0)):=(by rw[kK,qp];exact af4 wr _);have ki:gh≠B:=(by have:=(af3.1 GO.out).1;rw[qp];omega);have aZ:Below w.heap.size w W1:=(by rw[kK];exact hb.alloc hb.size _);clear kK qp c4 c5 c6 c7 z4 z5 z6 z7 hb)|(refine ga rfl 78 (.tmp 36) (.const (.int .u64 0)) rfl rfl B 4 255 0 (bC L++bC H) rfl rfl gT1 (by simp[bC]) (by kernel_rfl) ?_;intro W2 gT2 nB aaJ;have XQ:=nB _ _ hOB gO1;have gH2:=nB _ _ ki gH1;have bt:=aaJ _ _ hBw aZ;clear nB aaJ)|(refine ga rfl 78 (.tmp 37) (.const (.int .u64 0)) rfl rfl B 5 255 0 _ rfl rfl gT2 (by simp[bC]) (by kernel_rfl) ?_;intro W3 gT3 cZ aaK;have AD:=cZ _ _ hOB XQ;have gH3:=cZ _ _ ki gH2;have bd:=aaK _ _ hBw bt;clear cZ aaK)|(refine ga rfl 78 (.tmp 38) (.const (.int .u64 0)) rfl rfl B 6 255 0 _ rfl rfl gT3 (by simp[bC]) (by kernel_rfl) ?_;intro W4 gT4 lQ aaL;have Vq:=lQ _ _ hOB AD;have gH4:=lQ _ _ ki gH3;have dn:=aaL _ _ hBw bd;clear lQ aaL)|(refine ga rfl 78 (.tmp 39) (.const (.int .u64 0)) rfl rfl B 7 255 0 _ rfl rfl gT4 (by simp[bC]) (by kernel_rfl) ?_;intro W5 gT5 nO aaM;have gO5:=nO _ _ hOB Vq;have gH5:=nO _ _ ki gH4;have eh:=aaM _ _ hBw dn;clear nO aaM)|(refine aga rfl 140 (.tmp 5) rfl gh rfl 140 #[.int .u64 (dw H 0:Nat),.int .u64 (dw H 1:Nat),.int .u64 (dw H 2:Nat),.int .u64 (dw H 3:Nat)] (0,0) _ gH5 Tryz.underlying140 rfl (by kernel_rfl) ?_;clear gH5))
  have XR:=Hd.out;obtain⟨D,hD⟩:∃D,D=wv [d0,d1,d2]:=⟨_,rfl⟩;have Kp:d0<18446744073709551616:=XR.2.1 d0 (by simp);have vN:d1<18446744073709551616:=XR.2.1 d1 (by simp);have pQ:d2<18446744073709551616:=XR.2.1 d2 (by simp);have HD:=aa hD;have Vr:Hid (D<2^130):=aa (by rw[hD];exact XR.2.2.2.2);clear XR hD
  go_loopw [41] (fun iv wi=>∃(i:Nat) (U:List Nat),i≤4∧iv=.int .i64 i∧Hid (U.length=8∧(∀t∈U,t<18446744073709551616)∧wv U=L+wv ((bC H).take i)*D)∧
   wi.heap[B]?=some (.cells (im U).toArray 255 (0,0))∧wi.heap[B+1]?=some (.cells (ar 0) 140 (0,0))∧Below w.heap.size w wi) (fun iv _=>4-(intOf iv).toNat)
  case atStart=>exact⟨0,bC L++[0,0,0,0],by omega,rfl,aa ⟨rfl,fun t ht=>by rcases List.mem_append.1 ht with h|h;exact oW L _ h;(have:t=0:=by simpa using h);omega,by rw[sO,iU L hL];simp[wv]⟩,gT5,gO5,eh⟩
  case round=>
   clear gT5 gO5 eh gT1 gT2 gT3 gT4 gO1 XQ AD Vq aZ bt bd dn gH1 gH2 gH3 gH4 GT GO;obtain⟨i,T1,hi,rfl,yS,gT,gO,hb⟩:=hrel
   by_cases aL:i<4
   · obtain⟨a,ha⟩:=ab (dw H i)
     have Ob:a<18446744073709551616:=by rw[ha];exact kj _ _
     have mM:=fun ww=>lF H i aL ww
     simp only[←ha] at mM;have JL:=hF.below hb pq;have q0:World.cell? _ ⟨g,o+4,none⟩=some (.int .u64 (d0:Nat)):=JL.2.2 0 (by simp);have q1:World.cell? _ ⟨g,o+5,none⟩=some (.int .u64 (d1:Nat)):=JL.2.2 1 (by simp);have q2:World.cell? _ ⟨g,o+6,none⟩=some (.int .u64 (d2:Nat)):=JL.2.2 2 (by simp);have Ha:=aa ha;obtain⟨S,hS⟩:=ab (wv T1);have HS:=aa hS;have GT:=aa gT;have GO:=aa gO;clear ha hS JL gT gO;go_wp2_with fail;clear q0 q1 q2 mM;rw[show decide ((i:Int)<4)=true from af9 (by omega)]
     go_loopw [8,49] (fun cv kv wk=>∃(k c:Nat) (U:List Nat),k≤3∧kv=.int .i64 k∧cv=.int .u64 c∧c<18446744073709551616∧Hid (U.length=8∧(∀t∈U,t<18446744073709551616)∧wv U+c*2^(64*(i+k))=S+a*wv ([d0,d1,d2].take k)*2^(64*i))∧
      wk.heap[B]?=some (.cells (im U).toArray 255 (0,0))∧wk.heap[B+1]?=some (.cells (ar 0) 140 (0,0))∧Below w.heap.size w wk) (fun _ kv _=>3-(intOf kv).toNat)
     case atStart=>exact⟨0,0,T1,by omega,rfl,rfl,by omega,aa ⟨yS.out.1,yS.out.2.1,by rw[HS.out];simp[wv]⟩,GT.out,GO.out,hb⟩
     case round=>
      clear GT GO hb;obtain⟨k,c,U,hk,rfl,rfl,hc,HU,gT,gO,hb⟩:=hrel
      by_cases XM:k<3
      · obtain⟨b,nC⟩:∃b,b=[d0,d1,d2].getD k 0:=⟨_,rfl⟩
        have Km:b<18446744073709551616:=by
         rw[nC];rcases (show k=0∨k=1∨k=2 by omega) with rfl|rfl|rfl
         · exact Kp
         · exact vN
         exact pQ
        have mM:=fun ww=>CZ d0 d1 d2 k XM ww
        simp only[←nC] at mM;have IA:=aa nC;obtain⟨j,hj⟩:∃j,j=i+k:=⟨_,rfl⟩;have Rn:j<8:=by omega
        have hjI:(i:Int)+(k:Int)=(j:Int):=by omega
        have Oc:j<U.length:=by rw[HU.out.1];exact Rn
        have cT:=fH gT (k:=j) Oc;have zT:=bV gT j;have XN:U[j]=U.getD j 0:=by simp[Oc]
        obtain⟨t,ht⟩:∃t:Nat,t=U.getD j 0:=⟨_,rfl⟩;have JV:t<18446744073709551616:=by rw[ht,←XN];exact HU.out.2.1 _ (agl _)
        rw[XN,←ht] at cT;obtain⟨m1,m2,m3⟩:=mac a b c t Ob Km hc JV;have Fj:=fun ww=>Tryz.bits_Mul64 a b Ob Km ww
        obtain⟨hi,CX⟩:∃hi,hi=a*b/18446744073709551616:=⟨_,rfl⟩;obtain⟨lo,oY⟩:∃lo,lo=a*b%18446744073709551616:=⟨_,rfl⟩;rw[←CX,←oY] at m1 m2 m3;simp only[←CX,←oY] at Fj;have hA1:=fun ww=>ko lo c ww
        obtain⟨l1,j7⟩:∃l1,l1=(lo+c)%18446744073709551616:=⟨_,rfl⟩;obtain⟨c1,dW⟩:∃c1,c1=(lo+c)/18446744073709551616:=⟨_,rfl⟩;rw[←j7,←dW] at m2 m3;rw[←dW] at m1;simp only[←j7,←dW] at hA1;have Vo:=fun ww=>ko t l1 ww
        obtain⟨t1,qT⟩:∃t1,t1=(t+l1)%18446744073709551616:=⟨_,rfl⟩;obtain⟨c2,ez⟩:∃c2,c2=(t+l1)/18446744073709551616:=⟨_,rfl⟩;rw[←ez] at m2;rw[←qT,←ez] at m3;simp only[←qT,←ez] at Vo;have CY:t1<18446744073709551616:=by rw[qT];exact Nat.mod_lt _ (by decide)
        have XO:=aa Fj;have M3:=aa m3;have Hj:=aa hj;have Ht:=aa ht;have GO:=aa gO;have GT:=aa gT;clear nC hj ht CX oY j7 dW qT ez m3 Fj gO gT Oc XN;go_wp2_with (go_at_call 203;refine(XO.out _).mono ?_;rintro e w' ⟨rfl,bD⟩;rw[bD];clear bD);refine⟨⟨k+1,hi+c1+c2,U.set j t1,by omega,by go_num,by go_num,m2,aa ⟨by simpa using HU.out.1,fun q hq=>?_,?_⟩,yd GT.out,gI GO.out (by omega),hb.setCell (p:=⟨B,j,none⟩) hBw _⟩,by simp[intOf];omega⟩
        · rcases List.mem_or_eq_of_mem_set hq with h|h
          · exact HU.out.2.1 q h
          exact h▸CY
        have hjj:=Hj.out;have htt:=Ht.out;have hUl:=HU.out.1;subst hjj;refine vM U [d0,d1,d2] i k a c _ t1 S (by omega) XM ?_ HU.out.2.2;have e1:U[i+k]'(by omega)=t:=by rw[htt];simp[show i+k<U.length by omega]
        have e2:[d0,d1,d2][k]'XM=b:=by
         rw[IA.out];rcases (show k=0∨k=1∨k=2 by omega) with rfl|rfl|rfl<;>rfl
        rw[e1,e2];exact M3.out
      obtain rfl:k=3:=by omega
      obtain⟨q0,BN⟩:∃q,q=i+3:=⟨_,rfl⟩;have ae2:(i:Int)+3=(q0:Int):=by omega
      obtain⟨V2,EA⟩:∃V2,V2=L+wv ((bC H).take (i+1))*D:=⟨_,rfl⟩
      have cW:wv U+c*2^(64*q0)=V2:=by
       have h1:=HU.out.2.2;rw[show [d0,d1,d2].take 3=[d0,d1,d2] from rfl,←HD.out,HS.out,yS.out.2.2,←BN] at h1;rw[h1,EA,AE H i a aL Ha.out,Nat.add_mul,Nat.mul_right_comm];omega
      have Vs:V2<2^448:=by
       rw[EA];exact Fk L D _ hL Vr.out (by rw[agj];omega) (fun x hx=>oW H x (List.mem_of_mem_take hx))
      have aaN:=aa Vs;have Xm:=aa EA;have eg:=aa cW;have aaO:q0≤7:=by omega
      have GO:=aa gO;have GT:=aa gT;clear BN EA cW Vs gO gT;go_wp2_with fail
      go_loopw [8,14] (fun cv qv wk=>∃(q c:Nat) (U:List Nat),q≤7∧qv=.int .i64 q∧cv=.int .u64 c∧c<18446744073709551616∧Hid (U.length=8∧(∀t∈U,t<18446744073709551616)∧wv U+c*2^(64*q)=V2)∧
       wk.heap[B]?=some (.cells (im U).toArray 255 (0,0))∧wk.heap[B+1]?=some (.cells (ar 0) 140 (0,0))∧Below w.heap.size w wk) (fun _ qv _=>8-(intOf qv).toNat)
      case atStart=>exact⟨q0,c,U,aaO,rfl,rfl,hc,aa ⟨HU.out.1,HU.out.2.1,eg.out⟩,GT.out,GO.out,hb⟩
      case round=>
       clear hc HU GT GO hb eg aaO;obtain⟨q,c,U,hq7,rfl,rfl,hc,HU,gT,gO,hb⟩:=hrel
       by_cases iu:c=0
       · subst iu
         have GO:=aa gO;have GT:=aa gT;clear gO gT;go_wp2_with fail;exact⟨⟨i+1,U,by omega,by go_num,aa ⟨HU.out.1,HU.out.2.1,by have h1:=HU.out.2.2;have h2:=Xm.out;rw[←h2,←h1];omega⟩,GT.out,GO.out,hb⟩,by simp[intOf];omega⟩
       have hcI:¬((c:Int)=0):=by omega
       have hq:q<7:=C6 _ c q V2 HU.out.2.2 aaN.out iu;have hqU:q<U.length:=by rw[HU.out.1];omega
       have cT:=fH gT (k:=q) hqU;have zT:=bV gT q;have hUq:U[q]=U.getD q 0:=by simp[hqU]
       obtain⟨t,ht⟩:∃t:Nat,t=U.getD q 0:=⟨_,rfl⟩;have JV:t<18446744073709551616:=by rw[ht,←hUq];exact HU.out.2.1 _ (agl _)
       rw[hUq,←ht] at cT;have Vo:=fun ww=>ko t c ww
       have m3:(t+c)%18446744073709551616+18446744073709551616*((t+c)/18446744073709551616)=t+0+c:=by omega
       have m2:(t+c)/18446744073709551616<18446744073709551616:=by omega
       obtain⟨t1,qT⟩:∃t1,t1=(t+c)%18446744073709551616:=⟨_,rfl⟩;obtain⟨c2,ez⟩:∃c2,c2=(t+c)/18446744073709551616:=⟨_,rfl⟩;rw[←ez] at m2;rw[←qT,←ez] at m3;simp only[←qT,←ez] at Vo;have CY:t1<18446744073709551616:=by rw[qT];exact Nat.mod_lt _ (by decide)
       have M3:=aa m3;have Ht:=aa ht;have GO:=aa gO;have GT:=aa gT;clear ht qT ez m3 gO gT hqU hUq;go_wp2_with fail;refine⟨⟨q+1,c2,U.set q t1,by omega,by go_num,rfl,m2,aa ⟨by simpa using HU.out.1,fun r hr=>?_,?_⟩,yd GT.out,gI GO.out (by omega),hb.setCell (p:=⟨B,q,none⟩) hBw _⟩,by simp[intOf];omega⟩
       · rcases List.mem_or_eq_of_mem_set hr with h|h
         · exact HU.out.2.1 r h
         exact h▸CY
       have hqU:q<U.length:=by rw[HU.out.1];omega
       have h1:=Iv U q hqU 0 c c2 t1 (by rw[show U[q]=t by rw[Ht.out];simp[hqU]];exact M3.out);have h2:=HU.out.2.2;omega
   obtain rfl:i=4:=by omega
   have hTv:wv T1=L+H*D:=by rw[yS.out.2.2,show (bC H).take 4=bC H from rfl,iU H hH]
   have hrw:=IB gT;have aaP:=aa hTv;have Hrw:=aa hrw;have GO:=aa gO;have GT:=aa gT;clear hTv hrw gO gT;go_wp2_with fail;refine⟨⟨T1,aa ⟨yS.out.1,yS.out.2.1,?_⟩,GT.out,GO.out,hb⟩,?_⟩
   · have h1:=CT m D L H (by rw[HD.out];exact Hd.out.2.2.1)
     rw[aaP.out,h1,←HTv.out];exact HT.out.2.2
   rw[Hrw.out,eC.out,aaP.out,HTv.out];exact Kd D L H (Nat.lt_trans Vr.out (by decide)) Hh0.out
theorem fI {P:Program} {ops:Array Oper} {rest:List Oper} {o:Oper} {a:Act} {w:World} {Q:Exit→Act→World→Prop} (tF:o.guard=none) (ty:TypeId) (x y:Operand) (ho:o.op=.store ty x y) (hd:o.dst=none)
 (g:Nat) (cells:Array Value) (hx:a.eval x=.pointer (some ⟨g,0,none⟩)) (hy:a.eval y=.agg cells)
 (t:TypeId) (yD:Array Value) (hg:w.heap[g]?=some (.cells yD t (0,0))) (hi:(P.info? ty).map (·.size)=some cells.size)
 (hold:yD.size=cells.size) (h1:cells.all (·.oneCell')=true)
 (h:∀w',w'.heap[g]?=some (.cells cells t (0,0))→(∀q ob,q≠g→w.heap[q]?=some ob→w'.heap[q]?=some ob)→(∀n w0,n≤g→Below n w0 w→Below n w0 w')→wpList P ops Q rest a w'):wpList P ops Q (o::rest) a w:=by
 refine af6 tF ty x y ho g cells hx hy t yD hg hi hold h1 ?_;rw[hd];exact h _ (agd _ _ _ _ _ _ hg) (fun q ob hq hob=>(setRow_other w g q _ hq).trans hob) (fun n w0 hn hb=>ah hb hn _)
theorem l8 (g o m:Nat) (d:List Nat) (hd:uZ m d) (hm:m<2^256) (x y:Nat) (hx:x<2^256) (hy:y<2^256) (w:World) (hF:FieldAt w g o m d):
 Calls Tryz.prog 175 #[.pointer (some ⟨g,o,none⟩),.agg (ar x),.agg (ar y)] w fun e W'=>e=.returned (.agg (ar (x*y%m)))∧Below w.heap.size w W':=
 Oa g o m d x y hx hy w hF (fun T W hl h64 hFW=>Ko g o m d hd hm T hl h64 W hFW)
theorem ID (e q:Nat) (h:q<(bC e).length):(bC e)[q]=dw e q:=by
 have h4:q<4:=h;rcases (show q=0∨q=1∨q=2∨q=3 by omega) with rfl|rfl|rfl|rfl<;>rfl
theorem SO (e i:Nat) (h:i<256):bits .and .u64 ((dw e (i/64):Nat)/2^(i%64):Int) 1=((e/2^i%2:Nat):Int):=by
 have h1:((dw e (i/64):Nat)/2^(i%64):Int)=((dw e (i/64)/2^(i%64):Nat):Int):=by push_cast;rfl
 have h2:dw e (i/64)/2^(i%64)<18446744073709551616:=Nat.lt_of_le_of_lt (Nat.div_le_self _ _) (kj _ _);rw[h1];have h3:=bits_and_u64_nat (dw e (i/64)/2^(i%64)) 1 h2 (by decide);rw[Nat.and_one_is_mod,NR e i h] at h3;exact h3
theorem Og (m x e:Nat) (hm:1<m):∀j,yc m x e j<m
 |0=>hm
 |j+1=>by unfold yc;split<;>exact Nat.mod_lt _ (by omega)
set_option exponentiation.threshold 1000 in
theorem Oh (g o m:Nat) (d:List Nat) (hd:uZ m d) (hm:m<2^256) (vm:1<m) (x e:Nat) (hx:x<2^256) (w:World) (hF:FieldAt w g o m d):
 Calls Tryz.prog 177 #[.pointer (some ⟨g,o,none⟩),.agg (ar x),.agg (ar e)] w fun r W'=>r=.returned (.agg (ar (pw m x e)))∧Below w.heap.size w W':=by
 have pq:=hF.1;obtain⟨R,hR⟩:=ab (pw m x e);rw[←hR];have HR:=aa hR;clear hR;have Hd:=aa hd;have Hm:=aa hm;have Hm1:=aa vm;clear hd hm vm;unfold ar;go_enter Tryz.func177,Tryz.ntmps177;go_wp2_with fail;have h4:=jH w (.cells (ar x) 140) (.cells (ar e) 140) (.cells (ar 0) 140) (.cells (ar 1) 140);obtain⟨W0,aM⟩:∃W0,W0=((((w.alloc (.cells (ar x) 140)).alloc (.cells (ar e) 140)).alloc (.cells (ar 0) 140)).alloc (.cells (ar 1) 140)):=⟨_,rfl⟩;have bL:Below w.heap.size w W0:=by rw[aM];exact((((af5 _ w).alloc (af2 _) _).alloc (by simp) _).alloc (by simp;omega) _).alloc (by simp;omega) _
 refine(show W0=_ from aM)▸?_;rw[←aM] at h4;obtain⟨gX,gE,gR,gO⟩:=h4;obtain⟨B,hB⟩:=ab w.heap.size;rw[←hB] at gX gE gR gO⊢;have HB:=aa hB;have hBw:w.heap.size≤B+1+1+1:=by omega
 clear aM hB
 go_loopw [8] (fun iv wr=>∃(j:Nat) (z:Int),j≤256∧iv=.int .i64 z∧Hid (z=255-(j:Int))∧
  wr.heap[B]?=some (.cells (ar x) 140 (0,0))∧wr.heap[B+1]?=some (.cells (im (bC e)).toArray 140 (0,0))∧wr.heap[B+1+1]?=some (.cells (ar 0) 140 (0,0))∧wr.heap[B+1+1+1]?=some (.cells (ar (yc m x e j)) 140 (0,0))∧Below w.heap.size w wr) (fun iv _=>(intOf iv+1).toNat)
 case atStart=>exact⟨0,255,by omega,rfl,aa (by omega),gX,gE,gR,gO,bL⟩
 case round=>
  clear gX gE gR gO bL;obtain⟨j,z,hj,rfl,Hz,gX,gE,gR,gO,hb⟩:=hrel;have pV:=aa (show (Tryz.prog.info? 140).map (·.size)=some 4 by kernel_rfl)
  by_cases aL:j<256
  · obtain⟨i,hi⟩:∃i:Nat,i=255-j:=⟨_,rfl⟩
    obtain rfl:z=(i:Int):=by have:=Hz.out;omega
    have aaQ:i<256:=by omega
    have Hi:=aa hi;obtain⟨V,hV⟩:=ab (yc m x e j);have hVm:V<2^256:=by rw[hV];exact Nat.lt_trans (Og m x e Hm1.out j) Hm.out
    rw[←hV] at gO;have HV:=aa hV;have JL:=hF.below hb pq;have Hsq:=aa (l8 g o m d Hd.out Hm.out V V hVm hVm _ JL);have GX:=aa gX;have GE:=aa gE;have GR:=aa gR;have GO:=aa gO;have EC:=aa (af3.1 gX).1;have HlE:=aa (af3.1 gE).1;have Oi:=aa (af3.1 gR).1;have Rr:=aa (af3.1 gO).1;clear hi hV JL gX gE gR gO Hz;go_wp2_with (refine aga rfl 140 (.tmp 7) rfl (B+1+1+1) rfl 140 (ar V) (0,0) _ GO.out Tryz.underlying140 rfl pV.out ?_);refine Hsq.out.mono ?_;rintro r w2 ⟨rfl,bt⟩;have Mt:=(bt.block B EC.out).trans GX.out;have gE2:=(bt.block (B+1) HlE.out).trans GE.out;have Vt:=(bt.block (B+1+1) Oi.out).trans GR.out;have XQ:=(bt.block (B+1+1+1) Rr.out).trans GO.out;have kN:=hb.trans (bt.mono hb.size);clear bt Hsq GX GE GR GO EC HlE Oi Rr hb;obtain⟨V2,EA⟩:∃V2,V2=V*V%m:=⟨_,rfl⟩;rw[←EA];have aaR:V2<m:=by rw[EA];exact Nat.mod_lt _ (by have:=Hm1.out;omega)
    have Xm:=aa EA;have ac4:=aa aaR;clear EA aaR;obtain⟨en,M7⟩:=ab (dw e (i/64));have AF:=SO e i aaQ;rw[←M7] at AF;obtain⟨b,nC⟩:∃b,b=e/2^i%2:=⟨_,rfl⟩;rw[←nC] at AF
    have lu:yc m x e (j+1)=if b=1 then V2*x%m else V2:=by
     rw[nC,Xm.out,HV.out,Hi.out];rfl
    have Hen:=aa M7;have IA:=aa nC;have Fl:=aa lu;clear M7 nC lu
    by_cases aZ:b=1
    · subst aZ
      rw[if_pos rfl] at Fl;go_wp2_with (first|(refine aga rfl 140 (.tmp 7) rfl (B+1+1+1) rfl 140 (ar V2) (0,0) _ GO.out Tryz.underlying140 rfl pV.out ?_)|(refine aga rfl 140 (.tmp 4) rfl B rfl 140 (ar x) (0,0) _ GX.out Tryz.underlying140 rfl pV.out ?_)|(refine fI rfl 140 (.tmp 7) (.tmp 17) rfl rfl (B+1+1+1) (ar V2) rfl rfl 140 _ XQ pV.out rfl (aN _) ?_;intro w3 AD ho nC;have XS:=ho _ _ (by omega) Mt;have SP:=ho _ _ (by omega) gE2;have Rs:=ho _ _ (by omega) Vt;have bd:=nC _ _ hBw kN;have cE:=fH SP (k:=i/64) (by rw[nY];omega);rw[ID,←Hen.out] at cE;have EC:=aa (af3.1 XS).1;have HlE:=aa (af3.1 SP).1;have Oi:=aa (af3.1 Rs).1;have Rr:=aa (af3.1 AD).1;have GX:=aa XS;have GE:=aa SP;have GR:=aa Rs;have GO:=aa AD;clear ho nC Mt gE2 Vt XQ XS SP Rs AD kN));refine(l8 g o m d Hd.out Hm.out V2 x (Nat.lt_trans ac4.out Hm.out) hx _ (hF.below bd pq)).mono ?_;rintro r w4 ⟨rfl,dn⟩;have gX4:=(dn.block B EC.out).trans GX.out;have gE4:=(dn.block (B+1) HlE.out).trans GE.out;have Vu:=(dn.block (B+1+1) Oi.out).trans GR.out;have Vq:=(dn.block (B+1+1+1) Rr.out).trans GO.out;have kN:=bd.trans (dn.mono bd.size);clear dn GX GE GR GO EC HlE Oi Rr bd cE;obtain⟨V3,hV3⟩:∃V3,V3=V2*x%m:=⟨_,rfl⟩;rw[←hV3] at Fl⊢;clear hV3;go_wp2_with (refine fI rfl 140 (.tmp 7) (.tmp 30) rfl rfl (B+1+1+1) (ar V3) rfl rfl 140 _ Vq pV.out rfl (aN _) ?_;intro w5 gO5 ho nC;have gX5:=ho _ _ (by omega) gX4;have gE5:=ho _ _ (by omega) gE4;have gR5:=ho _ _ (by omega) Vu;have eh:=nC _ _ hBw kN;have GX:=aa gX5;have GE:=aa gE5;have GR:=aa gR5;have GO:=aa gO5;clear ho nC gX4 gE4 Vu Vq gX5 gE5 gR5 gO5 kN);exact⟨⟨j+1,(i:Int)-1,by omega,rfl,aa (by have:=Hi.out;omega),GX.out,GE.out,GR.out,by rw[Fl.out];exact GO.out,eh⟩,by simp[intOf];try omega⟩
    have ae3:¬((b:Int)=1):=by omega
    rw[if_neg aZ] at Fl;go_wp2_with (refine fI rfl 140 (.tmp 7) (.tmp 17) rfl rfl (B+1+1+1) (ar V2) rfl rfl 140 _ XQ pV.out rfl (aN _) ?_;intro w3 AD ho nC;have XS:=ho _ _ (by omega) Mt;have SP:=ho _ _ (by omega) gE2;have Rs:=ho _ _ (by omega) Vt;have bd:=nC _ _ hBw kN;have cE:=fH SP (k:=i/64) (by rw[nY];omega);rw[ID,←Hen.out] at cE;have EC:=aa (af3.1 XS).1;have HlE:=aa (af3.1 SP).1;have Oi:=aa (af3.1 Rs).1;have Rr:=aa (af3.1 AD).1;have GX:=aa XS;have GE:=aa SP;have GR:=aa Rs;have GO:=aa AD;clear ho nC Mt gE2 Vt XQ XS SP Rs AD kN);exact⟨⟨j+1,(i:Int)-1,by omega,rfl,aa (by have:=Hi.out;omega),GX.out,GE.out,GR.out,by rw[Fl.out];exact GO.out,bd⟩,by simp[intOf];try omega⟩
  obtain rfl:j=256:=by omega
  obtain rfl:z=-1:=by have:=Hz.out;omega
  rw[show yc m x e 256=R from HR.out.symm] at gO;have GR:=aa gR;have GO:=aa gO;clear gX gE gR gO Hz;go_wp2_with (first|(refine aga rfl 140 (.tmp 7) rfl (B+1+1+1) rfl 140 (ar R) (0,0) _ GO.out Tryz.underlying140 rfl pV.out ?_)|(refine af6 rfl 140 (.tmp 6) (.tmp 31) rfl (B+1+1) (ar R) rfl rfl 140 _ GR.out pV.out rfl (aN _) ?_));refine agf (v:=.agg (ar R)) ?_ rfl ⟨rfl,ah hb (by have:=HB.out;omega) _⟩;exact ags rfl _ _ (B+1+1) 140 (ar R) (0,0) _ rfl (agd _ _ _ _ _ _ GR.out) Tryz.underlying140 rfl pV.out
end Go.Proofs.YtcjioogololnoaaGreatDoor
