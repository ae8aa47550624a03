/- Of any text: the program's descriptors and the reference's are read and written alike (DescParses). No condition. -/
import Derived.Test.YtcjioogololnoaaGreatDoorU1
import Derived.Test.YtcjioogololnoaaGreatDoorU30
import Derived.Test.YtcjioogololnoaaGreatDoorU9
import Derived.Deep.DeepCutAuto
import Derived.Test.YtcjioogololnoaaGreatDoorU32
import Derived.Test.YtcjioogololnoaaGreatDoorU33
import Derived.Test.YtcjioogololnoaaGreatDoorU34
import Derived.Test.YtcjioogololnoaaGreatDoorU29
set_option maxRecDepth 1000000
set_option maxHeartbeats 16000000
set_option linter.unusedVariables false
set_option linter.unusedSimpArgs false
namespace Go.Proofs.YtcjioogololnoaaGreatDoor
open Go Go.RowKit Go.Shelf
theorem qg (parts:List (Nat×Value)):Tryz.prog.built 71 parts=Instr.fill (fun x=>(#[(0,1),(1,71),(72,1),(73,1),(74,1)]:Array (Nat×Nat))[x]?) dz parts:=by kernel_rfl
theorem BL (b:List UInt8) (A:Option Addr) (n c:Nat):Tryz.prog.built 71 [(0,.slice A n c)]=some (eS ⟨b,aP,[],false,false⟩ (.slice A n c) aV).toArray:=by
 rw[qg];have e0:dz=([]++([aV]++(ba aP++[aV,.bool false,.bool false]))).toArray:=rfl;rw[e0,fe _ 0 _ _ [] [aV] _ rfl rfl,Instr.fill];rfl
theorem Ia (top:HKey) (h:top.Ok):Tryz.prog.built 71 [(1,.agg (ba top).toArray)]=some (eS (dm top) aV aV).toArray:=by
 rw[qg];have e0:dz=([aV]++(ba aP++[aV,.bool false,.bool false])).toArray:=rfl;rw[e0,fe _ 1 _ _ [aV] (ba aP) _ (by rw[aI cI];rfl) (by simp[Value.cells,aI h,aI cI]),Instr.fill];rfl
theorem RZ:(Tryz.prog.info? 71).map (·.size)=some dz.size:=by rw[eB];kernel_rfl
theorem lO:dz.all (·.oneCell')=true:=ir _ _ _ rfl rfl
theorem QV (s:List UInt8):(cu s).2.length≤s.length:=by
 unfold cu;split
 · simp
 split
 · rename_i dV
   rw[agc,List.length_replicate,List.length_reverse,rJ]
   have h1:=mN 58 256 (by omega) (by omega) (by omega) (by omega) ((s.dropWhile (·==49)).map dR) (fun d hd=>by
    obtain⟨c,hc,rfl⟩:=List.mem_map.1 hd;exact nX c (dV c ((List.dropWhile_sublist _).subset hc)))
   rw[List.length_map] at h1;have hl:(s.dropWhile (·==49)).length≤s.length:=(List.dropWhile_sublist _).length_le;omega
 simp
theorem sw (s:List UInt8) (h:s.length≤66):(cM s).1≠0:=by
 unfold cM;split
 · next h0=>
   have hb:(ff s).2.length<78:=by
    have h1:=QV s;unfold ff;split
    · simp
    split
    · simp
    split
    · show (List.take _ _).length<78;rw[agj];omega
    simp
   rw[ku,if_neg (by omega)];decide
 assumption
def RRK (w:World) (S:List UInt8) (e:Ending) (W':World):Prop:=(∃(cs:Array Value) (b:Bool),e=.returned (.tuple #[.agg cs,.bool b])∧cs.size=75∧cs.all (·.oneCell')=true∧(aR S=none→b=false)∧(∀k,aR S=some k→b=true∧k.top.Ok∧∃pv sv,cs=(eS k pv sv).toArray∧KV W' w.heap.size k pv sv))∧Below w.heap.size w W'
theorem ng (s:ByteArray) (hsz:s.size≤4096) (w:World):
 Calls Tryz.prog 45 #[.string s] w (RRK w s.data.toList):=by
 have bW:Tryz.prog.follows .mixedOrders=true:=by kernel_rfl
 obtain⟨S,hS⟩:=ab s.data.toList;have nD:s=⟨S.toArray⟩:=by rw[hS]
 rw[←hS];obtain⟨N,hN⟩:=ab s.size;have Lq:S.length=N:=by rw[hN,nD];exact(aA S).symm
 have hNs:=hN.symm;have hN4:N≤4096:=by omega
 have aF:=af4 w (.cells dz 71);obtain⟨W0,aM⟩:=ab (w.alloc (.cells dz 71));rw[←aM] at aF;have bL:Below w.heap.size w W0:=by rw[aM];exact(af5 _ w).alloc (af2 _) _
 obtain⟨B,hB⟩:=ab w.heap.size;rw[←hB] at aF;have QW:=aa (fun W=>xD s 47 (by omega) W);rw[←hS] at QW;have OR:=fun W=>BK s W (by omega)
 rw[←hS] at OR;obtain⟨p0,qx⟩:∃p0,p0=(aK 47 S).headD []:=⟨_,rfl⟩;obtain⟨rest,fp⟩:∃r,r=(aK 47 S).tail:=⟨_,rfl⟩;have hP:aK 47 S=p0::rest:=by rw[qx,fp];exact eM 47 S
 rw[hP] at QW;have Me:∀q∈p0::rest,q.length≤N:=fun q hq=>by rw[←Lq];exact mb 47 S q (by rw[hP];exact hq)
 have aci:∀q∈p0::rest,∀x∈q,x≠47:=fun q hq=>oe 47 S q (by rw[hP];exact hq)
 have zK:(p0::rest).length≤N+1:=by rw[←hP,←Lq];exact mP 47 S
 obtain⟨E,hE⟩:∃E,E=(cM p0).1:=⟨_,rfl⟩;obtain⟨top,jX⟩:∃top,top=(cM p0).2:=⟨_,rfl⟩;have ht:top.Ok:=by rw[jX];exact ju p0
 have hTr:ij S=if E=0 then (oO top.priv rest).map (fun t=>⟨[],top,t.1,t.2.1,t.2.2⟩) else none:=by rw[BG S p0 rest hP,hE,jX]
 have hPs:=Eo ⟨p0.toArray⟩ (by rw[aA];have:=Me p0 (.head _);omega);rw[show (⟨p0.toArray⟩:ByteArray).data.toList=p0 from by simp,←hE,←jX] at hPs;have HPs:=aa hPs;obtain⟨cs,bB⟩:∃cs,cs=(ba top).toArray:=⟨_,rfl⟩;rw[←bB] at HPs;have dX:cs.size=71:=by rw[bB];simp[aI ht]
 have fJ:=aa (show (Tryz.prog.info? 69).map (·.size)=some cs.size by rw[dX];kernel_rfl);have kL:=aa (show kz.size=cs.size by rw[dX];rfl);have mR:=aa (show cs.all (·.oneCell')=true by rw[bB];exact jK top);have HTr:=aa hTr;have Mf:=aa Me;have aeo:=aa aci;have acj:=aa zK;have oX:=aa bB;have Ht:=aa ht;have jh:=aa Lq;have Jh:=aa nD;have gJ:=aa aM;have HB:=aa hB;have eC:=aa aF;have dh:=aa bL;have pM:Hid (w.heap.size≤B):=aa (by omega);have Yz:=aa OR;have HEe:=aa hE;have Hwz:Hid (W0.heap.size=B+1):=aa (by rw[aM,hB];simp);clear hS nD hN Lq hsz aF aM bL hB OR qx fp hP Me aci zK hE jX ht hTr hPs bB dX
 by_cases KJ:N=66
 · have e66:((N:Int)==66)=true:=by simp;omega
   have hU:=iH S;obtain⟨U,hUe⟩:=ab (cJ S);have sZ:Hid (aR S=OQ S U):=aa (by rw[Dr S (by rw[jh.out];exact KJ),←hUe]);rw[←hUe] at hU;have OR:=Yz.out;rw[←hUe] at OR;have Z3:=aa OR;have HU:=aa hU;have H66:=aa KJ;clear hU hUe OR KJ Yz;go_enter Tryz.func45,Tryz.ntmps45;go_wp2_with fail;refine(show W0=_ from gJ.out)▸?_;rw[←HB.out];refine(Z3.out W0).mono ?_;rintro e wh ⟨v,rfl,ho,RL⟩;have UH:=aa ((RL.block B (aJ eC.out)).trans eC.out);have Hbh:=aa (dh.out.trans (RL.mono dh.out.size))
   cases U with
   |none=>
    have HR:Hid (aR S=none):=aa (by
     rw[sZ.out];show ij S=none;rw[HTr.out,if_neg];rw[HEe.out];exact sw p0 (by have:=Mf.out p0 (.head _);have:=H66.out;omega))
    have me:E≠0:=by rw[HEe.out];exact sw p0 (by have:=Mf.out p0 (.head _);have:=H66.out;omega)
    have hEI:((E:Int)!=0)=true:=by simpa using me
    have pG:(p0.toArray).size≤4096:=by have:=Mf.out p0 (.head _);simp;omega
    clear ho RL me pG Z3;go_wp2_with fail;refine(QW.out wh).mono ?_;rintro e wS ⟨v,rfl,ho,QX⟩;have QY:=aa ((QX.block B (aJ UH.out)).trans UH.out);have HbS:=aa (Hbh.out.trans (QX.mono Hbh.out.size));obtain⟨m,hm⟩:∃m,m=(ST (p0::rest)).length:=⟨_,rfl⟩;have Z5:m=rest.length+1:=by rw[hm];simp
    obtain⟨A,c,rfl,dW,ez⟩:=ho.form;rw[←hm] at ho dW⊢;obtain⟨gP,rfl,hgP,_,IL,_⟩:=ho.at_ (j:=0) (by simp);rw[show (ST (p0::rest))[0]=.string ⟨p0.toArray⟩ from rfl] at IL
    have yB:gP<wS.heap.size:=by
     rcases Nat.lt_or_ge gP wS.heap.size with h|h
     · exact h
     exfalso;have h2:=IL;rw[World.cell?] at h2;simp[Array.getElem?_eq_none h] at h2
    have HcP:Hid (∀W,Below wS.heap.size wS W→∀j (h:j<(p0::rest).length),W.cell? ⟨gP,j,none⟩=some (.string ⟨(p0::rest)[j].toArray⟩)):=aa (fun W hW j h=>by
     obtain⟨g2,e2,_,_,ez,_⟩:=ho.at_ (j:=j) (by simpa using h)
     cases e2
     rw[(hW.cell (p:=⟨gP,j,none⟩) yB).trans ez,js])
    have ZN:0<m:=by omega
    have HmR:=aa Z5;have Hm:=aa hm;have Er:Hid (m≤c∧c≤maxLen):=aa ⟨dW,ez⟩;have HgP:=aa yB;clear ho QX hm Z5 dW ez hgP yB QW;go_wp2_with fail;refine(HPs.out wS).mono ?_;rintro e wK ⟨rfl,QZ⟩;have Mg:=aa ((QZ.block B (aJ QY.out)).trans QY.out);have HbK:=aa (HbS.out.trans (QZ.mono HbS.out.size));obtain⟨W3,iF⟩:=ab (wK.alloc (.cells cs 69));obtain⟨gt,nt⟩:=ab wK.heap.size;have gt3:W3.heap[gt]?=some (.cells cs 69 (0,0)):=by rw[iF,nt];exact af4 wK _
    have jm:Below wK.heap.size wK W3:=by rw[iF];exact(af5 _ _).alloc (af2 _) _
    have fo:=aa ((jm.block B (aJ Mg.out)).trans Mg.out);have ei:=aa (HbK.out.trans (jm.mono HbK.out.size));have RQ:Hid (Below wS.heap.size wS W3):=aa (QZ.trans (jm.mono QZ.size));have G3:=aa gt3;have pd:=aa iF;have Yb:=aa nt;clear QZ iF nt gt3 jm IL HPs;go_wp2_with (first|((with_reducible refine af6 ?s1 69 (.tmp 9) (.tmp 47) ?s2 wK.heap.size cs ?s3 ?s4 69 _ (af4 wK _) fJ.out ?s6 mR.out ?_);(case s1=>rfl);(case s2=>rfl);(case s3=>rfl);(case s4=>rfl);(case s6=>exact kL.out);rw[agi];refine(show W3=_ from pd.out)▸?_;rw[←Yb.out])|((with_reducible refine af6 ?_ 71 (.tmp 2) (.tmp 51) ?_ B dz ?_ ?_ 71 _ fo.out RZ ?_ lO ?_);rfl;rfl;rfl;rfl;exact rfl));refine agf (v:=.tuple #[.agg dz,.bool false]) ?_ rfl ⟨⟨dz,false,rfl,eB,lO,fun _=>rfl,fun k h=>by rw[HR.out] at h;cases h⟩,ah ei.out pM.out _⟩
    exact ai rfl _ _ B 71 dz (0,0) _ rfl (agd _ _ _ _ _ _ fo.out) _ rfl Tryz.underlying71 rfl RZ
   |some b=>
    replace ho:Ow wh W0.heap.size 5 v (B8 b):=ho;have mE:b.length=33:=by have h1:=HU.out b rfl;have:=jh.out;have:=H66.out;omega
    have zm:=aa mE;obtain⟨Ab,cb,rfl,OX,_⟩:=aH ho;rw[mE] at ho OX⊢
    have aep:Hid (∀a,Ab=some a→B<a.block):=aa (fun a ha=>by
     obtain⟨g2,e2,lv,_⟩:=ho.at_ (j:=0) (by rw[B8_length,mE];decide);rw[ha] at e2
     cases e2
     have:=Hwz.out;show B<g2;omega)
    have CF:=ho.sl
    have hAb:∀a,Ab=some a→w.heap.size≤a.block:=fun a ha=>by
     obtain⟨g2,e2,lv,_⟩:=ho.at_ (j:=0) (by rw[B8_length,mE];decide);rw[ha] at e2
     cases e2
     have:=Hwz.out;have:=pM.out;exact agx (by omega) lv
    have ZY:=aa (uz Ab cb b (by rw[mE];exact OX) wh CF);rw[mE] at ZY;have YG:Hid (∀W,Below wh.heap.size wh W→Calls Tryz.prog 56 #[.slice Ab 33 cb] W fun e W'=>e=.returned (.string ⟨(eF b).toArray⟩)∧Below W.heap.size W W'):=aa (fun W hW=>by have h:=D9 Ab cb b W ((CF.below hW).mono hW.size) (by omega);rwa [mE] at h)
    obtain⟨ip,BU⟩:=ab (iE b);rw[←BU] at ZY;have HR:Hid (aR S=if ip&&decide (eF b=S) then some ⟨b,aP,[],false,false⟩ else none):=aa (by rw[sZ.out,BU];rfl);obtain⟨jZ,hhB⟩:∃jZ:ByteArray,jZ=⟨(eF b).toArray⟩:=⟨_,rfl⟩;rw[←hhB] at YG;have hx:(jZ.toList==s.toList)=decide (eF b=S):=by rw[agt,agt,hhB,Jh.out,Bool.eq_iff_iff];simp
    obtain⟨fs,rS⟩:∃fs,fs=(eS ⟨b,aP,[],false,false⟩ (.slice Ab 33 cb) aV).toArray:=⟨_,rfl⟩;have lR:fs.size=75:=by rw[rS];simp[aT (k:=⟨b,aP,[],false,false⟩) cI]
    have th:=aa (show (Tryz.prog.info? 71).map (·.size)=some fs.size by rw[lR];kernel_rfl);have KM:=aa (show dz.size=fs.size by rw[lR];exact eB);have Bb:=aa (show fs.all (·.oneCell')=true by rw[rS];exact ir _ _ _ rfl rfl);have MH:=aa (show Tryz.prog.built 71 [(0,.slice Ab 33 cb)]=some fs by rw[rS];exact BL b Ab 33 cb);have rT:=aa rS;have Ib:=aa lR;have HsB:=aa CF;have ME:=aa hAb;clear ho OX CF hAb mE BU hhB rS lR sZ HU Z3 QW HPs RL;go_wp2_with fail;refine ZY.out.mono ?_;rintro e w2 ⟨pt,rfl,iO,yf,bt⟩;obtain⟨W3,iF⟩:=ab (w2.alloc (.cells pt 123));obtain⟨g6,va⟩:=ab w2.heap.size;have jm:Below w2.heap.size w2 W3:=by rw[iF];exact(af5 _ _).alloc (af2 _) _
    have UI:Below wh.heap.size wh W3:=bt.trans (jm.mono bt.size);have RV:=aa (show (Tryz.prog.info? 123).map (·.size)=some pt.size by rw[iO];kernel_rfl);have rl:=aa (show z24.size=pt.size by rw[iO];rfl);have Mw:=aa yf;have fo:=aa ((UI.block B (aJ UH.out)).trans UH.out);have ei:=aa (Hbh.out.trans (UI.mono Hbh.out.size));have Z6:=aa UI;have pd:=aa iF;have MJ:=aa va;clear bt jm UI iF va iO yf ZY;have aeq:=aep
    cases ip with
    |false=>
     have Z7:Hid (aR S=none):=aa (by rw[HR.out];rfl);go_wp2_with (first|((with_reducible refine af6 ?s1 123 (.tmp 6) (.tmp 29) ?s2 w2.heap.size pt ?s3 ?s4 123 _ (af4 w2 _) RV.out ?s6 Mw.out ?_);(case s1=>rfl);(case s2=>rfl);(case s3=>rfl);(case s4=>rfl);(case s6=>exact rl.out);rw[agi];refine(show W3=_ from pd.out)▸?_;rw[←MJ.out])|((with_reducible refine bQ ?_ 71 #[(0,.tmp 31)] ?_ fs ?_ ?_);rfl;rfl;exact MH.out)|((with_reducible refine af6 ?_ 71 (.tmp 2) (.tmp 32) ?_ B fs ?_ ?_ 71 _ fo.out th.out ?_ Bb.out ?_);rfl;rfl;rfl;rfl;exact KM.out))
     refine agf (v:=.tuple #[.agg fs,.bool false]) ?_ rfl ⟨⟨fs,false,rfl,Ib.out,Bb.out,fun _=>rfl,fun k h=>by rw[Z7.out] at h;cases h⟩,ah ei.out pM.out _⟩
     exact ai rfl _ _ B 71 fs (0,0) _ rfl (agd _ _ _ _ _ _ fo.out) _ rfl Tryz.underlying71 rfl th.out
    |true=>
     go_wp2_with (first|((with_reducible refine af6 ?s1 123 (.tmp 6) (.tmp 29) ?s2 w2.heap.size pt ?s3 ?s4 123 _ (af4 w2 _) RV.out ?s6 Mw.out ?_);(case s1=>rfl);(case s2=>rfl);(case s3=>rfl);(case s4=>rfl);(case s6=>exact rl.out);rw[agi];refine(show W3=_ from pd.out)▸?_;rw[←MJ.out])|((with_reducible refine bQ ?_ 71 #[(0,.tmp 31)] ?_ fs ?_ ?_);rfl;rfl;exact MH.out))
     refine(YG.out W3 Z6.out).mono ?_;rintro e w4 ⟨rfl,dn⟩;have ic:=aa ((dn.block B (aJ fo.out)).trans fo.out);have sz:=aa (ei.out.trans (dn.mono ei.out.size));have ack:Hid (Below wh.heap.size wh w4):=aa (Z6.out.trans (dn.mono Z6.out.size));clear dn YG
     by_cases hhx:eF b=S
     · rw[af9 hhx] at hx
       have yg:Hid (aR S=some ⟨b,aP,[],false,false⟩):=aa (by rw[HR.out,af9 hhx];rfl);go_wp2_with (first|((with_reducible refine af6 ?_ 71 (.tmp 2) (.tmp 32) ?_ B fs ?_ ?_ 71 _ ic.out th.out ?_ Bb.out ?_);rfl;rfl;rfl;rfl;exact KM.out));have HKV:Hid (KV (w4.setRow B fs) w.heap.size ⟨b,aP,[],false,false⟩ (.slice Ab 33 cb) aV):=aa ⟨⟨Ab,cb,by show Value.slice Ab 33 cb=.slice Ab b.length cb;rw[zm.out],ml ((HsB.out.below ack.out).mono ack.out.size) (fun a ha=>by have h0:=aeq.out a ha;omega),fun h0=>by have h1:b=[]:=h0;have:=zm.out;rw[h1] at this;simp at this,ME.out⟩,none,0,rfl,Sl.nil,fun _ h=>by cases h⟩;refine agf (v:=.tuple #[.agg fs,.bool true]) ?_ rfl ⟨⟨fs,true,rfl,Ib.out,Bb.out,(fun h=>by rw[yg.out] at h;cases h),(fun k h=>by rw[yg.out] at h;cases h;exact⟨rfl,cI,_,_,rT.out,HKV.out⟩)⟩,ah sz.out pM.out _⟩
       exact ai rfl _ _ B 71 fs (0,0) _ rfl (agd _ _ _ _ _ _ ic.out) _ rfl Tryz.underlying71 rfl th.out
     rw[af8 hhx] at hx;have Z7:Hid (aR S=none):=aa (by rw[HR.out,af8 hhx];rfl);go_wp2_with (first|((with_reducible refine af6 ?_ 71 (.tmp 2) (.tmp 32) ?_ B fs ?_ ?_ 71 _ ic.out th.out ?_ Bb.out ?_);rfl;rfl;rfl;rfl;exact KM.out));refine agf (v:=.tuple #[.agg fs,.bool false]) ?_ rfl ⟨⟨fs,false,rfl,Ib.out,Bb.out,fun _=>rfl,fun k h=>by rw[Z7.out] at h;cases h⟩,ah sz.out pM.out _⟩
     exact ai rfl _ _ B 71 fs (0,0) _ rfl (agd _ _ _ _ _ _ ic.out) _ rfl Tryz.underlying71 rfl th.out
 have e66:((N:Int)==66)=false:=by simp;omega
 have sZ:Hid (aR S=ij S):=aa (by rw[aR,if_neg (by rw[jh.out];exact KJ)]);clear KJ Yz;go_enter Tryz.func45,Tryz.ntmps45;go_wp2_with fail;refine(show W0=_ from gJ.out)▸?_;rw[←HB.out];refine(QW.out W0).mono ?_;rintro e wS ⟨v,rfl,ho,QX⟩;have QY:=aa ((QX.block B (aJ eC.out)).trans eC.out);have HbS:=aa (dh.out.trans (QX.mono dh.out.size));obtain⟨m,hm⟩:∃m,m=(ST (p0::rest)).length:=⟨_,rfl⟩;have Z5:m=rest.length+1:=by rw[hm];simp
 obtain⟨A,c,rfl,dW,ez⟩:=ho.form;rw[←hm] at ho dW⊢;obtain⟨gP,rfl,hgP,_,IL,_⟩:=ho.at_ (j:=0) (by simp);rw[show (ST (p0::rest))[0]=.string ⟨p0.toArray⟩ from rfl] at IL
 have yB:gP<wS.heap.size:=by
  rcases Nat.lt_or_ge gP wS.heap.size with h|h
  · exact h
  exfalso;have h2:=IL;rw[World.cell?] at h2;simp[Array.getElem?_eq_none h] at h2
 have HcP:Hid (∀W,Below wS.heap.size wS W→∀j (h:j<(p0::rest).length),W.cell? ⟨gP,j,none⟩=some (.string ⟨(p0::rest)[j].toArray⟩)):=aa (fun W hW j h=>by
  obtain⟨g2,e2,_,_,ez,_⟩:=ho.at_ (j:=j) (by simpa using h)
  cases e2
  rw[(hW.cell (p:=⟨gP,j,none⟩) yB).trans ez,js])
 have ZN:0<m:=by omega
 have HmR:=aa Z5;have Hm:=aa hm;have Er:Hid (m≤c∧c≤maxLen):=aa ⟨dW,ez⟩;have HgP:=aa yB;clear ho QX hm Z5 dW ez hgP yB QW;go_wp2_with fail;refine(HPs.out wS).mono ?_;rintro e wK ⟨rfl,QZ⟩;have Mg:=aa ((QZ.block B (aJ QY.out)).trans QY.out);have HbK:=aa (HbS.out.trans (QZ.mono HbS.out.size));obtain⟨W3,iF⟩:=ab (wK.alloc (.cells cs 69));obtain⟨gt,nt⟩:=ab wK.heap.size;have gt3:W3.heap[gt]?=some (.cells cs 69 (0,0)):=by rw[iF,nt];exact af4 wK _
 have jm:Below wK.heap.size wK W3:=by rw[iF];exact(af5 _ _).alloc (af2 _) _
 have fo:=aa ((jm.block B (aJ Mg.out)).trans Mg.out);have ei:=aa (HbK.out.trans (jm.mono HbK.out.size));have RQ:Hid (Below wS.heap.size wS W3):=aa (QZ.trans (jm.mono QZ.size));have G3:=aa gt3;have pd:=aa iF;have Yb:=aa nt;clear QZ iF nt gt3 jm IL HPs
 by_cases me:E=0
 · subst me
   have HRt:Hid (aR S=(oO top.priv rest).map (fun t=>⟨[],top,t.1,t.2.1,t.2.2⟩)):=aa (by rw[sZ.out,HTr.out,if_pos rfl]);obtain⟨ds,qk⟩:=ab (eS (dm top) aV aV);have ED:ds.length=75:=by rw[qk];exact aT (k:=dm top) Ht.out _ _
   have KK:=aa (show (Tryz.prog.info? 71).map (·.size)=some ds.toArray.size by rw[List.size_toArray,ED];kernel_rfl);have Tk:Hid (dz.size=ds.toArray.size):=aa (eB.trans (by rw[List.size_toArray,ED]));have Tl:=aa (show ds.toArray.all (·.oneCell')=true by rw[qk];exact ir _ _ _ rfl rfl);have MH:=aa (show Tryz.prog.built 71 [(1,.agg cs)]=some ds.toArray by rw[oX.out,qk];exact Ia top Ht.out);obtain⟨W4,sP⟩:=ab (W3.alloc (.cells ds.toArray 71));obtain⟨gk,jR⟩:=ab W3.heap.size;have gk4:W4.heap[gk]?=some (.cells ds.toArray 71 (0,0)):=by rw[sP,jR];exact af4 W3 _
   have jm:Below W3.heap.size W3 W4:=by rw[sP];exact(af5 _ _).alloc (af2 _) _
   have ic:=aa ((jm.block B (aJ fo.out)).trans fo.out);have G4:=aa ((jm.block gt (aJ G3.out)).trans G3.out);have sz:=aa (ei.out.trans (jm.mono ei.out.size));have MO:Hid (Below wS.heap.size wS W4):=aa (RQ.out.trans (jm.mono RQ.out.size));have HBt:Hid (B<gt):=aa (by rw[Yb.out];exact aJ Mg.out);have Es:Hid (B<gk):=aa (by rw[jR];exact aJ fo.out);have oh:Hid (gt<gk):=aa (by rw[jR];exact aJ G3.out);have HPk:Hid (gP<gk):=aa (by rw[jR];exact agq HgP.out RQ.out.size);have HSk:Hid (wS.heap.size≤gk):=aa (by rw[jR];exact RQ.out.size);have k73:W4.cell? ⟨gk,73,none⟩=some (.bool false):=by rw[agb _ _ _ _ _ _ gk4,agr,qk];exact mS (k:=dm top) Ht.out _ _
   have Z8:W4.cell? ⟨gk,74,none⟩=some (.bool false):=by rw[agb _ _ _ _ _ _ gk4,agr,qk];exact kD (k:=dm top) Ht.out _ _
   have z73:=bV gk4 73;have FC:=aa gk4;have Cu:=aa qk;have OV:=aa sP;have No:=aa jR;clear qk ED sP jR gk4 jm;obtain⟨c,rfl⟩:∃c2,c=c2+1:=⟨c-1,by have:=Er.out.1;omega⟩;obtain⟨q0,BN⟩:=ab rest.length;obtain rfl:m=q0+1:=by rw[HmR.out,BN]
   have Hq0:=aa BN;clear BN;have hcc:c=0∨0<c:=Nat.eq_zero_or_pos c;have hq4:q0≤4096:=by have:=acj.out;have:=Hq0.out;simp at*;omega
   go_upto_region 11 with (first|((with_reducible refine af6 ?s1 69 (.tmp 9) (.tmp 47) ?s2 wK.heap.size cs ?s3 ?s4 69 _ (af4 wK _) fJ.out ?s6 mR.out ?_);(case s1=>rfl);(case s2=>rfl);(case s3=>rfl);(case s4=>rfl);(case s6=>exact kL.out);rw[agi];refine(show W3=_ from pd.out)▸?_;rw[←Yb.out])|((with_reducible refine aga ?_ 69 (.tmp 9) ?_ gt ?_ 69 cs (0,0) _ G3.out Tryz.underlying69 ?_ fJ.out ?_);rfl;rfl;rfl;rfl)|((with_reducible refine bQ ?_ 71 #[(1,.tmp 52)] ?_ ds.toArray ?_ ?_);rfl;rfl;exact MH.out)|((with_reducible refine af6 ?s1 71 (.tmp 11) (.tmp 53) ?s2 W3.heap.size ds.toArray ?s3 ?s4 71 _ (af4 W3 _) KK.out ?s6 Tl.out ?_);(case s1=>rfl);(case s2=>rfl);(case s3=>rfl);(case s4=>rfl);(case s6=>exact Tk.out);rw[agi];refine(show W4=_ from OV.out)▸?_;rw[←No.out]))
   conv in (Act.put _ none _)=>simp[Act.put]
   go_cut [8] (fun s8 wx=>∃A8:Option Addr,s8=.slice A8 q0 c∧Hid (0<q0→A8=some ⟨gP,1,none⟩)∧wx=W4)
   case first=>
    rcases hcc with rfl|hcc
    all_goals
     go_wp2_with fail;go_meet;exact⟨_,by simp;rfl,aa (fun h=>by first|rfl|(have:=Er.out.1;omega)),rfl⟩
   case rest=>
    obtain⟨A8,rfl,HA8,CJ⟩:=hcut;rw[CJ];clear CJ;go_upto_if 58 with (fail)
    go_cut [8] (fun s8 wx=>∃(ps:List (List UInt8)) (rB fj:Bool) (A8:Option Addr) (c8 mp:Nat),s8=.slice A8 mp c8∧Hid (ps.length=mp)∧mp≤c8∧Hid (0<mp→A8=some ⟨gP,1,none⟩)∧Hid (aR S=(mD top.priv rB fj ps).map (fun t=>⟨[],top,t.1,t.2.1,t.2.2⟩))∧Hid (∀q∈ps,q.length≤N∧∀x∈q,x≠47)∧Hid (∀W,Below wS.heap.size wS W→∀j (h:j<ps.length),W.cell? ⟨gP,1+j,none⟩=some (.string ⟨ps[j].toArray⟩))∧Hid (wx.heap[B]?=some (.cells dz 71 (0,0)))∧Hid (wx.heap[gt]?=some (.cells cs 69 (0,0)))∧Hid (wx.heap[gk]?=some (.cells (eS ⟨[],top,[],rB,fj⟩ aV aV).toArray 71 (0,0)))∧Hid (Below w.heap.size w wx)∧Hid (Below wS.heap.size wS wx))
    have GK5:Hid (W4.heap[gk]?=some (.cells (eS ⟨[],top,[],false,false⟩ aV aV).toArray 71 (0,0))):=aa (by have h:=FC.out;rw[Cu.out] at h;exact h)
    case first=>
     rcases Nat.eq_zero_or_pos q0 with rfl|hq1
     · have hre:rest=[]:=List.length_eq_zero_iff.1 Hq0.out.symm
       have Ic:Hid (aR S=(mD top.priv false false []).map (fun t=>⟨[],top,t.1,t.2.1,t.2.2⟩)):=aa (by rw[HRt.out,hre,GV]);clear hre k73 Z8 z73;go_wp2_with fail;go_meet;exact⟨[],false,false,_,_,0,rfl,aa rfl,agu _,aa (fun h=>absurd h (Nat.lt_irrefl 0)),Ic,aa (fun q hq=>by cases hq),aa (fun W hW j h=>by cases h),ic,G4,GK5,sz,MO⟩
     obtain⟨q1,rfl⟩:∃q1,q0=q1+1:=⟨q0-1,by omega⟩;obtain rfl:=HA8.out hq1;have lZ:rest.length=q1+1:=Hq0.out.symm;have acm:rest≠[]:=fun h=>by rw[h] at lZ;cases lZ
     have hlI:q1<rest.length:=by omega
     obtain⟨l,hl⟩:∃l,l=rest.getLastD []:=⟨_,rfl⟩;have yN:rest[q1]=l:=by rw[hl,List.getLastD_eq_getLast?,List.getLast?_eq_getElem?,lZ,Nat.add_sub_cancel,age hlI];rfl
     obtain⟨lB,Yl⟩:∃lB:ByteArray,lB=⟨l.toArray⟩:=⟨_,rfl⟩;have WW:lB.size=l.length:=by rw[Yl];exact aA l
     have HcR:Hid (∀W,Below wS.heap.size wS W→∀j (h:j<rest.length),W.cell? ⟨gP,1+j,none⟩=some (.string ⟨rest[j].toArray⟩)):=aa (fun W hW j h=>by have h2:=HcP.out W hW (1+j) (by simp;omega);rw[h2];simp[Nat.add_comm 1 j]);have HqR:Hid (∀q∈rest,q.length≤N∧∀x∈q,x≠47):=aa (fun q hq=>⟨Mf.out q (.tail _ hq),aeo.out q (.tail _ hq)⟩);have kl:W4.cell? ⟨gP,1+q1,none⟩=some (.string lB):=by rw[HcR.out W4 MO.out q1 hlI,yN,Yl]
     have hcc:0<c:=by have:=Er.out.1;omega
     have e0:∀t:List UInt8,(lB.toList==t)=decide (l=t):=fun t=>by rw[agt,Yl,Bool.eq_iff_iff];simp
     have Hl:=aa hl;have PJ:=aa lZ;have Z9:=aa acm;have TN:=aa kl;have MV:=aa e0;have Hlz:=aa WW;clear hl yN Yl hlI lZ acm kl e0 WW k73 Z8 z73 hq1
     by_cases EJ:sq l
     · have e1:=(MV.out [42]).trans (af8 EJ.1)
       have e2:=(MV.out [42,39]).trans (af8 EJ.2.1);have e3:=(MV.out [42,104]).trans (af8 EJ.2.2.1);have e4:=(MV.out [42,72]).trans (af8 EJ.2.2.2);have Ic:Hid (aR S=(mD top.priv false false rest).map (fun t=>⟨[],top,t.1,t.2.1,t.2.2⟩)):=aa (by rw[HRt.out,QC _ _ Z9.out (by rw[←Hl.out];exact EJ)]);clear EJ;have kl:=TN.out;go_wp2_with fail;go_meet;exact⟨rest,false,false,_,_,_,rfl,PJ,by have:=Er.out.1;omega,aa (fun _=>rfl),Ic,HqR,HcR,ic,G4,GK5,sz,MO⟩
     have hm:l=[42]∨l=[42,39]∨l=[42,104]∨l=[42,72]:=by
      unfold sq at EJ
      by_cases h1:l=[42]
      · exact .inl h1
      by_cases h2:l=[42,39]
      · exact .inr (.inl h2)
      by_cases h3:l=[42,104]
      · exact .inr (.inr (.inl h3))
      by_cases h4:l=[42,72]
      · exact .inr (.inr (.inr h4))
      exact absurd ⟨h1,h2,h3,h4⟩ EJ
     clear EJ;rcases hm with rfl|hm
     · have WW:lB.size=1:=Hlz.out
       have Ic:Hid (aR S=(mD top.priv true false rest.dropLast).map (fun t=>⟨[],top,t.1,t.2.1,t.2.2⟩)):=aa (by rw[HRt.out,xQ _ false _ Z9.out (by rw[←Hl.out];decide)]);obtain⟨ps,pG⟩:∃ps:List (List UInt8),ps=rest.dropLast:=⟨_,rfl⟩;have Sa:Hid (ps.length=q1):=aa (by rw[pG,List.length_dropLast,PJ.out];rfl);have Hq:Hid (∀q∈ps,q.length≤N∧∀x∈q,x≠47):=aa (fun q hq=>HqR.out q (by rw[pG] at hq;exact(List.dropLast_sublist _).subset hq))
       have HcQ:Hid (∀W,Below wS.heap.size wS W→∀j (h:j<ps.length),W.cell? ⟨gP,1+j,none⟩=some (.string ⟨ps[j].toArray⟩)):=aa (fun W hW j h=>by
        have hj:j<rest.length:=by rw[Sa.out] at h;rw[PJ.out];omega
        have e:ps[j]=rest[j]:=by
         subst pG;exact List.getElem_dropLast h
        rw[HcR.out W hW j hj,e])
       rw[←pG] at Ic;clear pG;have k73:W4.cell? ⟨gk,73,none⟩=some (.bool false):=by rw[agb _ _ _ _ _ _ FC.out,agr,Cu.out];exact mS (k:=dm top) Ht.out _ _
       have Z8:W4.cell? ⟨gk,74,none⟩=some (.bool false):=by rw[agb _ _ _ _ _ _ FC.out,agr,Cu.out];exact kD (k:=dm top) Ht.out _ _
       have z73:=bV FC.out 73;have z74:=bV FC.out 74;have kl:=TN.out;have hcq:q1≤c:=by have:=Er.out.1;omega
       have e1:(lB.toList==[42])=true:=(MV.out [42]).trans (by decide);have e2:=0;have e3:=0;have e4:=0;obtain⟨W5,xP⟩:∃W5,W5=((W4.setCell ⟨gk,73,none⟩ (.bool true)).setCell ⟨gk,74,none⟩ (.bool false)):=⟨_,rfl⟩
       have gk5:W5.heap[gk]?=some (.cells (eS ⟨[],top,[],true,false⟩ aV aV).toArray 71 (0,0)):=by
        have h0:=FC.out;rw[Cu.out] at h0;have h1:=heap_setCell_same W4 gk 73 _ _ (Value.bool true) h0;rw[pa (k:=dm top) Ht.out] at h1;have h2:=heap_setCell_same _ gk 74 _ _ (Value.bool false) h1;rw[xP,h2];exact congrArg (fun c=>some (Obj.cells c 71 (0,0))) (pb (k:={ dm top with ranged:=true }) Ht.out aV aV false)
       have qw:Below gk W4 W5:=by rw[xP];exact((af5 gk W4).setCell (p:=⟨gk,73,none⟩) (af2 _) _).setCell (p:=⟨gk,74,none⟩) (af2 _) _
       have pL:=aa ((qw.block B Es.out).trans ic.out);have G5:=aa ((qw.block gt oh.out).trans G4.out);have aaa:=aa gk5;have Ed:Hid (Below w.heap.size w W5):=aa (sz.out.trans (qw.mono (by have:=pM.out;have:=Es.out;omega)));have Wj:Hid (Below wS.heap.size wS W5):=aa (MO.out.trans (qw.mono HSk.out));have Ur:=aa xP;clear xP gk5 qw;go_wp2_with fail;go_meet;refine(show W5=((W4.setCell ⟨gk,73,none⟩ (.bool true)).setCell ⟨gk,74,none⟩ (.bool false)) from Ur.out)▸?_;exact⟨ps,true,false,_,_,q1,rfl,Sa,hcq,aa (fun _=>rfl),Ic,Hq,HcQ,pL,G5,aaa,Ed,Wj⟩
     have WW:lB.size=2:=by rw[Hlz.out];rcases hm with rfl|rfl|rfl<;>rfl
     rcases hm with rfl|rfl|rfl
     all_goals
      have Ic:Hid (aR S=(mD top.priv true true rest.dropLast).map (fun t=>⟨[],top,t.1,t.2.1,t.2.2⟩)):=aa (by rw[HRt.out,xQ _ true _ Z9.out (by rw[←Hl.out];decide)]);obtain⟨ps,pG⟩:∃ps:List (List UInt8),ps=rest.dropLast:=⟨_,rfl⟩;have Sa:Hid (ps.length=q1):=aa (by rw[pG,List.length_dropLast,PJ.out];rfl);have Hq:Hid (∀q∈ps,q.length≤N∧∀x∈q,x≠47):=aa (fun q hq=>HqR.out q (by rw[pG] at hq;exact(List.dropLast_sublist _).subset hq))
      have HcQ:Hid (∀W,Below wS.heap.size wS W→∀j (h:j<ps.length),W.cell? ⟨gP,1+j,none⟩=some (.string ⟨ps[j].toArray⟩)):=aa (fun W hW j h=>by
       have hj:j<rest.length:=by rw[Sa.out] at h;rw[PJ.out];omega
       have e:ps[j]=rest[j]:=by
        subst pG;exact List.getElem_dropLast h
       rw[HcR.out W hW j hj,e])
      rw[←pG] at Ic;clear pG;have k73:W4.cell? ⟨gk,73,none⟩=some (.bool false):=by rw[agb _ _ _ _ _ _ FC.out,agr,Cu.out];exact mS (k:=dm top) Ht.out _ _
      have Z8:W4.cell? ⟨gk,74,none⟩=some (.bool false):=by rw[agb _ _ _ _ _ _ FC.out,agr,Cu.out];exact kD (k:=dm top) Ht.out _ _
      have z73:=bV FC.out 73;have z74:=bV FC.out 74;have kl:=TN.out;have hcq:q1≤c:=by have:=Er.out.1;omega
      have e1:(lB.toList==[42])=false:=(MV.out [42]).trans (by decide)
      first|(have e2:(lB.toList==[42,39])=true:=(MV.out [42,39]).trans (by decide))|(have e2:(lB.toList==[42,39])=false:=(MV.out [42,39]).trans (by decide))
      first|(have e3:(lB.toList==[42,104])=true:=(MV.out [42,104]).trans (by decide))|(have e3:(lB.toList==[42,104])=false:=(MV.out [42,104]).trans (by decide))
      first|(have e4:(lB.toList==[42,72])=true:=(MV.out [42,72]).trans (by decide))|(have e4:(lB.toList==[42,72])=false:=(MV.out [42,72]).trans (by decide))
      obtain⟨W5,xP⟩:∃W5,W5=((W4.setCell ⟨gk,73,none⟩ (.bool true)).setCell ⟨gk,74,none⟩ (.bool true)):=⟨_,rfl⟩
      have gk5:W5.heap[gk]?=some (.cells (eS ⟨[],top,[],true,true⟩ aV aV).toArray 71 (0,0)):=by
       have h0:=FC.out;rw[Cu.out] at h0;have h1:=heap_setCell_same W4 gk 73 _ _ (Value.bool true) h0;rw[pa (k:=dm top) Ht.out] at h1;have h2:=heap_setCell_same _ gk 74 _ _ (Value.bool true) h1;rw[xP,h2];exact congrArg (fun c=>some (Obj.cells c 71 (0,0))) (pb (k:={ dm top with ranged:=true }) Ht.out aV aV true)
      have qw:Below gk W4 W5:=by rw[xP];exact((af5 gk W4).setCell (p:=⟨gk,73,none⟩) (af2 _) _).setCell (p:=⟨gk,74,none⟩) (af2 _) _
      have pL:=aa ((qw.block B Es.out).trans ic.out);have G5:=aa ((qw.block gt oh.out).trans G4.out);have aaa:=aa gk5;have Ed:Hid (Below w.heap.size w W5):=aa (sz.out.trans (qw.mono (by have:=pM.out;have:=Es.out;omega)));have Wj:Hid (Below wS.heap.size wS W5):=aa (MO.out.trans (qw.mono HSk.out));have Ur:=aa xP;clear xP gk5 qw;go_wp2_with fail;go_meet;refine(show W5=((W4.setCell ⟨gk,73,none⟩ (.bool true)).setCell ⟨gk,74,none⟩ (.bool true)) from Ur.out)▸?_;exact⟨ps,true,true,_,_,q1,rfl,Sa,hcq,aa (fun _=>rfl),Ic,Hq,HcQ,pL,G5,aaa,Ed,Wj⟩
    case rest=>
     clear k73 Z8 z73 hcc hq4;obtain⟨ps,rB,fj,A9,c8,mp,rfl,Sa,hm8,HA9,Ic,Hq,HcQ,pL,G5,GK5,Ed,Wj⟩:=hcut
     by_cases hbig:20<mp
     · have Z7:Hid (aR S=none):=aa (by rw[Ic.out,mD,if_pos (by rw[Sa.out];exact hbig)];rfl)
       go_wp2_with (((with_reducible refine af6 ?_ 71 (.tmp 2) (.tmp 92) ?_ B dz ?_ ?_ 71 _ pL.out RZ ?_ lO ?_);rfl;rfl;rfl;rfl;exact rfl));refine agf (v:=.tuple #[.agg dz,.bool false]) ?_ rfl ⟨⟨dz,false,rfl,eB,lO,fun _=>rfl,fun k h=>by rw[Z7.out] at h;cases h⟩,ah Ed.out pM.out _⟩
       exact ai rfl _ _ B 71 dz (0,0) _ rfl (agd _ _ _ _ _ _ pL.out) _ rfl Tryz.underlying71 rfl RZ
     have aer:Hid (mp≤20):=aa (by omega);have Z8:wc.cell? ⟨gk,74,none⟩=some (.bool fj):=by rw[agb _ _ _ _ _ _ GK5.out,agr];exact kD (k:=⟨[],top,[],rB,fj⟩) Ht.out _ _
     go_wp2_with fail;clear Z8 hbig;have afY:Hid (∀(ns:List Nat),ns.length≤20→ns.length≤20):=aa (fun _ h=>h);go_loopw [13,14,15,16] (fun hv iv _ _ wr=>∃(i:Nat) (ns:List Nat) (sv:Value),i≤mp∧iv=.int .i64 i∧hv=.bool (fj||ns.any (fun n=>decide (2147483648≤n)))∧Hid (bf (ps.take i)=some ns)∧Below gk wc wr∧wr.heap[gk]?=some (.cells (eS ⟨[],top,ns,rB,fj⟩ aV sv).toArray 71 (0,0))∧Ow wr (gk+1) 55 sv (cL ns)∧Hid (ns=[]→sv=aV)) (fun _ iv _ _ _=>mp-(intOf iv).toNat)
     case atStart=>exact⟨0,[],aV,by omega,rfl,by simp,aa rfl,af5 _ _,GK5.out,Ow.nil_ _ _ _ _,aa (fun _=>rfl)⟩
     case round=>
      obtain⟨i,ns,sv,hi,rfl,rfl,eg,mL,jR,ho,Hni⟩:=hrel;obtain⟨bb,nC⟩:∃bb,bb=(fj||ns.any (fun n=>decide (2147483648≤n))):=⟨_,rfl⟩;rw[←nC];have Hbw:=aa mL;have HGK:=aa jR;have Ho:=aa ho;have IA:=aa nC;have FJ:=aa ((mL.block B Es.out).trans pL.out);have GW:=aa ((mL.block gt oh.out).trans G5.out);have HbW:Hid (Below w.heap.size w wr):=aa (Ed.out.trans (mL.mono (by have:=pM.out;have:=Es.out;omega)));have HPW:Hid (Below wS.heap.size wS wr):=aa (Wj.out.trans (mL.mono HSk.out));clear nC mL jR ho
      by_cases aL:i<mp
      · obtain rfl:=HA9.out (by omega)
        have BU:i<ps.length:=by rw[Sa.out];exact aL
        have cP:=HcQ.out wr HPW.out i BU;obtain⟨pi,hpi⟩:∃pi,pi=ps[i]:=⟨_,rfl⟩;rw[←hpi] at cP;have BV:pi∈ps:=by rw[hpi];exact agl _
        obtain⟨pB,Wy⟩:∃pB:ByteArray,pB=⟨pi.toArray⟩:=⟨_,rfl⟩;rw[←Wy] at cP;have iO:pB.size≤4096:=by rw[Wy,aA];have:=(Hq.out pi BV).1;omega
        have hpd:pB.data.toList=pi:=by rw[Wy]
        have MD:=aa (H8 pB iO (by rw[hpd];exact(Hq.out pi BV).2) wr);rw[hpd] at MD;have aes:Hid (ps.take (i+1)=ps.take i++[pi]):=aa (by rw[agh BU,hpi]);have Hpm:=aa BV;clear hpi BV Wy iO hpd BU;go_wp2_with fail;refine MD.out.mono ?_;rintro e w6 ⟨⟨v,n,rfl,aet⟩,fv⟩;have pO:=aa ((fv.block B (aJ FJ.out)).trans FJ.out);have Z2:=aa ((fv.block gk (aJ HGK.out)).trans HGK.out);have ZE:=aa (Ho.out.below fv (af2 _));have aeu:Hid (Below gk wc w6):=aa (Hbw.out.trans (fv.mono (Nat.le_of_lt (aJ HGK.out))));have acn:Hid (Below w.heap.size w w6):=aa (HbW.out.trans (fv.mono HbW.out.size));have afZ:=aa fv.size;clear fv MD;rcases aet with ⟨vq,rfl,yq⟩|⟨jY,zW,Mx,A9,m9,c9,rfl⟩
        · obtain⟨x,hx⟩:∃x,x=(a8 pi).2:=⟨_,rfl⟩
          rw[←hx] at yq;have Zn:x<4294967296:=by rw[hx];exact vE pi
          have UJ:Hid (bf (ps.take (i+1))=some (ns++[x])):=aa (by rw[aes.out,hx];exact BH _ _ _ eg.out vq);have EI:ns.length≤20:=by have:=(Ek _ _ eg.out).1;rw[this,agj];omega
          obtain⟨A9,c9,rfl,aco,_⟩:=yq.form;rw[show (cL [x]).length=1 from rfl] at yq aco⊢;obtain⟨gx,rfl,hgx,_,WR,_⟩:=yq.at_ (j:=0) (by simp);rw[show (cL [x])[0]=.int .u32 (x:Int) from rfl] at WR;have Hcx:=aa WR;have Hgx:Hid (wr.heap.size≤gx):=aa hgx;have Hnl:=aa EI;clear hx vq yq aco WR hgx EI;have WR:=Hcx.out;go_wp2_with fail;have k72:w6.cell? ⟨gk,72,none⟩=some sv:=by rw[agb _ _ _ _ _ _ Z2.out,agr];exact ot (k:=⟨[],top,ns,rB,fj⟩) Ht.out _ _
          refine an [(0,0),(1,1),(2,0),(3,0),(4,1),(5,2),(6,2),(7,2),(8,2)] 6 bW (by kernel_rfl) (by intro c a d v w h;cases d<;>exact h) ?_
          repeat ((first|refine ag rfl fun K hK=>?_|refine af rfl fun K hK=>?_);go_simp;(first|refine hK _ ?_|(simp only[IntWalk.iteOmega];go_simp;refine hK _ ?_)|(go_bits;go_simp;refine hK _ ?_));clear hK K;try go_bits)
          refine ae rfl rfl (fun K hK=>?_);go_wp2_with fail;refine⟨.inr (bM _ _),?_⟩;obtain⟨w7,MW⟩:∃w7,w7=(w6.alloc (.cells #[.int .u32 (x:Int)] 55)).drew:=⟨_,rfl⟩
          rw[←MW];have Ie:Below w6.heap.size w6 w7:=by rw[MW];exact((af5 _ _).alloc (af2 _) _).drew
          have Mu:Sl w7 (w6.heap.size+1) (some ⟨w6.heap.size,0,none⟩) [.int .u32 (x:Int)]:=by rw[MW];exact(Sl.one w6 _ _).drew
          have AL:Ow w7 (gk+1) 55 sv (cL ns):=by rw[MW];exact(ZE.out.alloc _).drew
          clear MW;have Q0:gk+1≤w6.heap.size:=aJ Z2.out;refine ae rfl rfl (fun K hK=>?_);refine bn (m:=1) (c:=1) (base:=gk+1) (xs:=cL ns) (v:=sv) (A:=some ⟨w6.heap.size,0,none⟩) (B:=w6.heap.size+1) (news:=[.int .u32 (x:Int)]) elU (.tmp 118) (.tmp 122) rfl rfl AL rfl Mu rfl (by simp;rfl) (by rw[U32_length];have:=Hnl.out;simp[maxLen];omega) (by rw[U32_length];have:=Hnl.out;omega) (agx Q0 Ie.size) ?_;intro v8 w8 Dl OE Vp;rw[vU] at Dl;clear Vp;obtain⟨Av,cv,rfl,_,_⟩:=Dl.form;obtain⟨nl,EI⟩:∃nl,nl=(cL (ns++[x])).length:=⟨_,rfl⟩;rw[←EI] at Dl⊢;clear EI;have acp:Below (gk+1) w7 w8:=(af5 _ w7).mono (agx Q0 Ie.size) |>.grown OE (agx Q0 Ie.size) (fun r hr=>(AL.row r hr).1);refine(show K (Act.put _ (some 123) (.slice Av nl cv)) w8 from ?_)
          conv in (Act.put _ (some 123) (.slice Av nl cv))=>simp[Act.put]
          refine hK _ _ ⟨.inl (by decide),?_⟩;have UK:Below (gk+1) w6 w8:=(Ie.mono Q0).trans acp;have GK8:=aa ((UK.block gk (by omega)).trans Z2.out);have af0:=aa ((UK.block B (by have:=Es.out;omega)).trans pO.out);have Wl:=aa Dl;have Hb8:=aa (aeu.out.trans (UK.mono (by omega)));have aab:=Hcx.out;have aac:gx<w6.heap.size:=World.block_lt_of_cell? _ _ aab;have acq:w8.cell? ⟨gx,0,none⟩=some (.int .u32 (x:Int)):=(World.cell?_of_block (OE.block gx (agq aac Ie.size) (fun e=>by have:=(Ho.out.row gx e.symm).2;have:=Hgx.out;omega))).trans ((Ie.cell (p:=⟨gx,0,none⟩) aac).trans aab);have aev:w8.cell? ⟨gk,72,none⟩=some sv:=by rw[agb _ _ _ _ _ _ GK8.out,agr];exact ot (k:=⟨[],top,ns,rB,fj⟩) Ht.out _ _
          have z72:=bV GK8.out 72;have aew:=aa acq;clear UK acp OE Dl Mu AL Q0 Ie k72 aab aac acq WR;refine ae rfl rfl (fun K hK=>?_);go_wp2_with fail;refine⟨.inl (by decide),?_⟩;refine ae rfl rfl (fun K hK=>?_);go_wp2_with fail;refine⟨.inl (by decide),?_⟩;refine ak ?_;obtain⟨w9,MX⟩:∃w9,w9=w8.setCell ⟨gk,72,none⟩ (.slice Av nl cv):=⟨_,rfl⟩;rw[←MX];have GK9:Hid (w9.heap[gk]?=some (.cells (eS ⟨[],top,(ns++[x]),rB,fj⟩ aV (.slice Av nl cv)).toArray 71 (0,0))):=aa (by rw[MX,heap_setCell_same _ _ _ _ _ _ GK8.out];exact congrArg (fun c=>some (Obj.cells c 71 (0,0))) (o8 (k:=⟨[],top,ns,rB,fj⟩) Ht.out aV sv (.slice Av nl cv)));have aex:w9.cell? ⟨gx,0,none⟩=some (.int .u32 (x:Int)):=by rw[MX,World.cell?_setCell_other _ _ _ _ (by intro e;injection e with e _ _;have:=Hgx.out;have:=aJ HGK.out;omega)];exact aew.out
          have pJ:Ow w9 (gk+1) 55 (.slice Av nl cv) (cL (ns++[x])):=by rw[MX];exact Wl.out.setCell (fun g hg e=>by have:=(Wl.out.row g hg).1;change gk=g at e;omega) (.slice Av nl cv)
          have kC:Below gk wc w9:=by rw[MX];exact Hb8.out.setCell (af2 _) (.slice Av nl cv)
          have Wm:=aa pJ;have FD:=aa kC;clear MX pJ kC aev z72
          cases bb with
          |true=>
           clear aex;go_wp2_with fail;exact⟨⟨i+1,ns++[x],_,by omega,by simp,by rw[List.any_append,←Bool.or_assoc,←IA.out];rfl,UJ,FD.out,GK9.out,Wm.out,aa (fun h0=>by simp at h0)⟩,by simp only[intOf];omega⟩
          |false=>
           obtain⟨xb,hxb⟩:=ab (decide (2147483648≤x));have e32:decide ((2147483648:Int)≤(x:Int))=xb:=by rw[hxb];exact decide_eq_decide.2 (by omega)
           have Hxb:=aa hxb;clear hxb;go_wp2_with fail;exact⟨⟨i+1,ns++[x],_,by omega,by simp,by rw[List.any_append,←Bool.or_assoc,←IA.out,show xb=_ from Hxb.out];simp,UJ,FD.out,GK9.out,Wm.out,aa (fun h0=>by simp at h0)⟩,by simp only[intOf];omega⟩
        have je:Hid (aR S=none):=aa (by
         rw[Ic.out,mD,uw ps pi Hpm.out jY];split<;>rfl)
        clear jY;rcases Mx with zL|Vc
        · have hnI:((n:Int)!=0)=true:=by simp;omega
          clear zL;go_wp2_with (first|((with_reducible refine af6 ?_ 71 (.tmp 2) (.tmp 116) ?_ B dz ?_ ?_ 71 _ pO.out RZ ?_ lO ?_);rfl;rfl;rfl;rfl;exact rfl));refine agf (v:=.tuple #[.agg dz,.bool false]) ?_ rfl ⟨⟨dz,false,rfl,eB,lO,fun _=>rfl,fun k h=>by rw[je.out] at h;cases h⟩,ah acn.out pM.out _⟩
          exact ai rfl _ _ B 71 dz (0,0) _ rfl (agd _ _ _ _ _ _ pO.out) _ rfl Tryz.underlying71 rfl RZ
        injection Vc with e1 e2 e3;subst e1 e2 e3;have pF:n=0∨n≠0:=by omega
        rcases pF with rfl|zL
        all_goals
         (try have hnI:((n:Int)!=0)=true:=by simp;omega)
         go_wp2_with (first|((with_reducible refine af6 ?_ 71 (.tmp 2) (.tmp 116) ?_ B dz ?_ ?_ 71 _ pO.out RZ ?_ lO ?_);rfl;rfl;rfl;rfl;exact rfl));refine agf (v:=.tuple #[.agg dz,.bool false]) ?_ rfl ⟨⟨dz,false,rfl,eB,lO,fun _=>rfl,fun k h=>by rw[je.out] at h;cases h⟩,ah acn.out pM.out _⟩
         exact ai rfl _ _ B 71 dz (0,0) _ rfl (agd _ _ _ _ _ _ pO.out) _ rfl Tryz.underlying71 rfl RZ
      obtain rfl:i=mp:=by omega
      clear hi aL;have UJ:Hid (bf ps=some ns):=aa (by have h:=eg.out;rwa [af7 (by rw[Sa.out];omega)] at h)
      have HR:Hid (aR S=if bb&&!top.priv then none else some ⟨[],top,ns,rB,fj⟩):=aa (by
       rw[Ic.out,mD,if_neg (by rw[Sa.out];have:=aer.out;omega),UJ.out];dsimp only;rw[←IA.out];generalize (bb&&!top.priv)=q
       cases q<;>rfl)
      obtain⟨x0,tJ⟩:=ab (top.data.getD 0 0)
      have kx:wr.cell? ⟨gt,38,none⟩=some (.int .u8 (x0.toNat:Int)):=by
       rw[agb _ _ _ _ _ _ GW.out,oX.out,agr,show (38:Nat)=38+0 from rfl,y8 Ht.out 0,B8,List.getElem?_map,age (by rw[Ht.out.data];omega),tJ,agB,age (by rw[Ht.out.data];omega)];rfl
      have ep:((x0.toNat:Int)==0)=top.priv:=by rw[tJ];exact oK (top.data.getD 0 0) 0
      obtain⟨q,hq⟩:=ab top.priv;rw[←hq] at ep HR;obtain⟨fs,rS⟩:∃fs,fs=(eS ⟨[],top,ns,rB,fj⟩ aV sv).toArray:=⟨_,rfl⟩;have lR:fs.size=75:=by rw[rS];simp[aT (k:=⟨[],top,ns,rB,fj⟩) Ht.out]
      have UG:=Ho.out.form;have acr:sv.oneCell'=true:=by obtain⟨a1,c1,e1,_⟩:=UG;rw[e1];rfl
      have th:=aa (show (Tryz.prog.info? 71).map (·.size)=some fs.size by rw[lR];kernel_rfl);have KM:=aa (show dz.size=fs.size by rw[lR];exact eB);have Bb:=aa (show fs.all (·.oneCell')=true by rw[rS];exact ir ⟨[],top,ns,rB,fj⟩ _ _ rfl acr);have Ib:=aa lR;have HGF:Hid (wr.heap[gk]?=some (.cells fs 71 (0,0))):=aa (by rw[rS];exact HGK.out);have HbD:Hid (Below w.heap.size w wr.drew):=aa HbW.out.drew;have Mh:Hid (wr.drew.heap[B]?=some (.cells dz 71 (0,0))):=aa FJ.out;have Hq:=aa hq
      have HKV:Hid (KV (wr.drew.setRow B fs) w.heap.size ⟨[],top,ns,rB,fj⟩ aV sv):=aa (by
       obtain⟨a1,c1,e1,dW,ez⟩:=UG;have ho:=Ho.out;rw[e1] at ho
       have aF:∀a,a1=some a→gk+1≤a.block:=fun a ha=>by
        rcases uH:ns with _|⟨n0,nr⟩
        · have h2:=Hni.out uH
          rw[e1] at h2;injection h2 with h3 h4 h5;rw[h3] at ha
          cases ha
        refine(ho.row a.block ?_).1;rw[ha,az,if_neg (by rw[uH] at dW;simp at dW;omega)]
       rw[U32_length] at e1;exact⟨⟨none,0,rfl,Sl.nil,fun _=>rfl,fun _ h=>by cases h⟩,a1,c1,e1,ml ho.sl.drew (fun a ha=>by have:=aF a ha;have:=Es.out;omega),fun a ha=>by have:=aF a ha;have:=Es.out;have:=pM.out;omega⟩)
      have rT:=aa rS;clear tJ hq rS lR UG acr
      cases bb with
      |false=>
       go_wp2_with fail;refine bw (fun W=>W.heap[gk]?=some (.cells fs 71 (0,0))∧W.cell? ⟨gt,38,none⟩=some (.int .u8 (x0.toNat:Int))) [(0,1),(1,0),(2,0),(3,0),(4,0),(5,0),(6,1),(7,0),(8,0),(9,2),(10,0)] bW (by kernel_rfl) (by intro c a d v w h;cases d<;>exact h) ⟨HGF.out,kx⟩ ?_;refine aO (.agg fs) (by decide) rfl rfl (fun W hW=>bI 71 (.tmp 11) rfl gk rfl 71 fs (0,0) _ hW.1 Tryz.underlying71 rfl th.out) ?_;refine(show aY _ _ _ _ _ _ (Act.put _ (some 132) _) _ from ?_)
       conv in (Act.put _ (some 132) _)=>simp[Act.put]
       repeat (refine ax (by decide) rfl fun K hK=>?_;go_simp;(first|refine hK _ ?_|(simp only[IntWalk.iteOmega];go_simp;refine hK _ ?_)|(go_bits;go_simp;refine hK _ ?_));clear hK K;try go_bits)
       refine bz rfl rfl (fun K hK=>?_);refine agC 71 (.tmp 2) (.tmp 132) rfl B fs rfl rfl 71 _ Mh.out th.out KM.out Bb.out ?_;refine hK _ _ ⟨⟨(setRow_other _ _ _ _ (Nat.ne_of_gt Es.out)).trans HGF.out,(World.cell?_of_block (setRow_other _ B gt _ (Nat.ne_of_gt HBt.out))).trans kx⟩,?_⟩;clear hK K
       repeat (refine ax (by decide) rfl fun K hK=>?_;go_simp;(first|refine hK _ ?_|(simp only[IntWalk.iteOmega];go_simp;refine hK _ ?_)|(go_bits;go_simp;refine hK _ ?_));clear hK K;try go_bits)
       refine cH ?_;go_wp2_with fail;have yg:aR S=some ⟨[],top,ns,rB,fj⟩:=by rw[HR.out];rfl
       refine agf (v:=.tuple #[.agg fs,.bool true]) ?_ rfl ⟨⟨fs,true,rfl,Ib.out,Bb.out,(fun h=>by rw[yg] at h;cases h),(fun k h=>by rw[yg] at h;cases h;exact⟨rfl,Ht.out,_,_,rT.out,HKV.out⟩)⟩,ah HbD.out pM.out _⟩
       exact ai rfl _ _ B 71 fs (0,0) _ rfl (agd _ _ _ _ _ _ Mh.out) _ rfl Tryz.underlying71 rfl th.out
      |true=>
       cases q with
       |true=>
        go_wp2_with fail;refine bw (fun W=>W.heap[gk]?=some (.cells fs 71 (0,0))∧W.cell? ⟨gt,38,none⟩=some (.int .u8 (x0.toNat:Int))) [(0,1),(1,0),(2,0),(3,0),(4,0),(5,0),(6,1),(7,0),(8,0),(9,2),(10,0)] bW (by kernel_rfl) (by intro c a d v w h;cases d<;>exact h) ⟨HGF.out,kx⟩ ?_;refine aO (.agg fs) (by decide) rfl rfl (fun W hW=>bI 71 (.tmp 11) rfl gk rfl 71 fs (0,0) _ hW.1 Tryz.underlying71 rfl th.out) ?_;refine(show aY _ _ _ _ _ _ (Act.put _ (some 132) _) _ from ?_)
        conv in (Act.put _ (some 132) _)=>simp[Act.put]
        repeat (refine ax (by decide) rfl fun K hK=>?_;go_simp;(first|refine hK _ ?_|(simp only[IntWalk.iteOmega];go_simp;refine hK _ ?_)|(go_bits;go_simp;refine hK _ ?_));clear hK K;try go_bits)
        refine aO (.int .u8 (x0.toNat:Int)) (by decide) rfl rfl (fun W hW=>by have il:=hW.2;clear hW;go_simp) ?_;refine(show aY _ _ _ _ _ _ (Act.put _ (some 138) _) _ from ?_)
        conv in (Act.put _ (some 138) _)=>simp[Act.put]
        repeat (refine ax (by decide) rfl fun K hK=>?_;go_simp;(first|refine hK _ ?_|(simp only[IntWalk.iteOmega];go_simp;refine hK _ ?_)|(go_bits;go_simp;refine hK _ ?_));clear hK K;try go_bits)
        refine bz rfl rfl (fun K hK=>?_);refine agC 71 (.tmp 2) (.tmp 132) rfl B fs rfl rfl 71 _ Mh.out th.out KM.out Bb.out ?_;refine hK _ _ ⟨⟨(setRow_other _ _ _ _ (Nat.ne_of_gt Es.out)).trans HGF.out,(World.cell?_of_block (setRow_other _ B gt _ (Nat.ne_of_gt HBt.out))).trans kx⟩,?_⟩;clear hK K
        repeat (refine ax (by decide) rfl fun K hK=>?_;go_simp;(first|refine hK _ ?_|(simp only[IntWalk.iteOmega];go_simp;refine hK _ ?_)|(go_bits;go_simp;refine hK _ ?_));clear hK K;try go_bits)
        refine cH ?_;go_wp2_with fail;have yg:aR S=some ⟨[],top,ns,rB,fj⟩:=by rw[HR.out];rfl
        refine agf (v:=.tuple #[.agg fs,.bool true]) ?_ rfl ⟨⟨fs,true,rfl,Ib.out,Bb.out,(fun h=>by rw[yg] at h;cases h),(fun k h=>by rw[yg] at h;cases h;exact⟨rfl,Ht.out,_,_,rT.out,HKV.out⟩)⟩,ah HbD.out pM.out _⟩
        exact ai rfl _ _ B 71 fs (0,0) _ rfl (agd _ _ _ _ _ _ Mh.out) _ rfl Tryz.underlying71 rfl th.out
       |false=>
        go_wp2_with fail;refine bw (fun W=>W.heap[gk]?=some (.cells fs 71 (0,0))∧W.cell? ⟨gt,38,none⟩=some (.int .u8 (x0.toNat:Int))) [(0,1),(1,0),(2,0),(3,0),(4,0),(5,0),(6,1),(7,0),(8,0),(9,2),(10,0)] bW (by kernel_rfl) (by intro c a d v w h;cases d<;>exact h) ⟨HGF.out,kx⟩ ?_;refine aO (.agg fs) (by decide) rfl rfl (fun W hW=>bI 71 (.tmp 11) rfl gk rfl 71 fs (0,0) _ hW.1 Tryz.underlying71 rfl th.out) ?_;refine(show aY _ _ _ _ _ _ (Act.put _ (some 132) _) _ from ?_)
        conv in (Act.put _ (some 132) _)=>simp[Act.put]
        repeat (refine ax (by decide) rfl fun K hK=>?_;go_simp;(first|refine hK _ ?_|(simp only[IntWalk.iteOmega];go_simp;refine hK _ ?_)|(go_bits;go_simp;refine hK _ ?_));clear hK K;try go_bits)
        refine aO (.int .u8 (x0.toNat:Int)) (by decide) rfl rfl (fun W hW=>by have il:=hW.2;clear hW;go_simp) ?_;refine(show aY _ _ _ _ _ _ (Act.put _ (some 138) _) _ from ?_)
        conv in (Act.put _ (some 138) _)=>simp[Act.put]
        repeat (refine ax (by decide) rfl fun K hK=>?_;go_simp;(first|refine hK _ ?_|(simp only[IntWalk.iteOmega];go_simp;refine hK _ ?_)|(go_bits;go_simp;refine hK _ ?_));clear hK K;try go_bits)
        refine bz rfl rfl (fun K hK=>?_);refine agC 71 (.tmp 2) (.tmp 132) rfl B fs rfl rfl 71 _ Mh.out th.out KM.out Bb.out ?_;refine hK _ _ ⟨⟨(setRow_other _ _ _ _ (Nat.ne_of_gt Es.out)).trans HGF.out,(World.cell?_of_block (setRow_other _ B gt _ (Nat.ne_of_gt HBt.out))).trans kx⟩,?_⟩;clear hK K
        repeat (refine ax (by decide) rfl fun K hK=>?_;go_simp;(first|refine hK _ ?_|(simp only[IntWalk.iteOmega];go_simp;refine hK _ ?_)|(go_bits;go_simp;refine hK _ ?_));clear hK K;try go_bits)
        refine cH ?_;go_wp2_with fail;have Z7:aR S=none:=by rw[HR.out];rfl
        refine agf (v:=.tuple #[.agg fs,.bool false]) ?_ rfl ⟨⟨fs,false,rfl,Ib.out,Bb.out,fun _=>rfl,fun k h=>by rw[Z7] at h;cases h⟩,ah HbD.out pM.out _⟩
        exact ai rfl _ _ B 71 fs (0,0) _ rfl (agd _ _ _ _ _ _ Mh.out) _ rfl Tryz.underlying71 rfl th.out
 have HR:Hid (aR S=none):=aa (by rw[sZ.out,HTr.out,if_neg me]);have hEI:((E:Int)!=0)=true:=by simpa using me
 clear me;go_wp2_with (first|((with_reducible refine af6 ?s1 69 (.tmp 9) (.tmp 47) ?s2 wK.heap.size cs ?s3 ?s4 69 _ (af4 wK _) fJ.out ?s6 mR.out ?_);(case s1=>rfl);(case s2=>rfl);(case s3=>rfl);(case s4=>rfl);(case s6=>exact kL.out);rw[agi];refine(show W3=_ from pd.out)▸?_;rw[←Yb.out])|((with_reducible refine af6 ?_ 71 (.tmp 2) (.tmp 51) ?_ B dz ?_ ?_ 71 _ fo.out RZ ?_ lO ?_);rfl;rfl;rfl;rfl;exact rfl));refine agf (v:=.tuple #[.agg dz,.bool false]) ?_ rfl ⟨⟨dz,false,rfl,eB,lO,fun _=>rfl,fun k h=>by rw[HR.out] at h;cases h⟩,ah ei.out pM.out _⟩
 exact ai rfl _ _ B 71 dz (0,0) _ rfl (agd _ _ _ _ _ _ fo.out) _ rfl Tryz.underlying71 rfl RZ
end Go.Proofs.YtcjioogololnoaaGreatDoor
