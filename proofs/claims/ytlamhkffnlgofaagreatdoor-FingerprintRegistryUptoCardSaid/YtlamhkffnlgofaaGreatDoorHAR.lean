/- The examples of the document hold: awake of layer 19. What the listed variables of layer 19 read as. Plain: the bytes of a valid schema with bare defaults are few. No condition. -/
import Derived.Test.YtlamhkffnlgofaaGreatDoorHAQ
import Derived.Test.YtlamhkffnlgofaaGreatDoorTie
import Derived.Test.YtlamhkffnlgofaaGreatDoorCards
import Derived.SevenTiedAt
import Derived.ProofKit
import Derived.LaidMore
import Derived.OpenShut
import Derived.Stop.Joined
import Derived.Lib.LaidTab
set_option maxHeartbeats 800000
set_option maxRecDepth 100000
namespace Go.Proofs.YtlamhkffnlgofaaGreatDoor
open Go.ChangeShapes Go.WideShapes Go.ChangeAt Go.RowKit
theorem bytesOf {ts:List ay} {l:List UInt8} {t:Nat} (hv:fF ts=0) (ht:t < ts.length) (hI:akg ts) (hD:acM ts) (h0:aqB ts) (he:aj2 ts t=(l,0)) (hl:l.length≤1000000000000) (hs:Sizes ts) {w:World} (hp:aj0 w) {A:Option Addr} {c:Nat}
  (hr:aU w w.heap.size (.slice A ts.length c) ts):Calls Tryz.prog 22 #[.agg #[.slice A ts.length c,.int .i64 (t:Nat)]] w (RTq w (.tuple #[.string ⟨l.toArray⟩,.int .i64 0])):=by
 have hb:=arh hv ht hD;rw [he] at hb;have hll:(Lp (jk ts t)).length≤1000000000000:=by rw [← (Prod.mk.inj hb).1];exact hl
 have h:=ayD ts A c (t:Nat) w hs hr hp hI (fun _ _ => by rw [Int.toNat_natCast];exact hll) (fun _ _ => by
  rw [Int.toNat_natCast];exact avs (akP hv ht) (ari hv ht hI) (aoU hv ht hD) (as7 hv ht h0))
 rw [he] at h;exact h
theorem aBi (nm:List UInt8) (h:nm.length≤100):ar4 (awM nm):=⟨⟨F7 3,F7 0⟩,by show nm.length≤_;omega,⟨rfl,rfl,rfl⟩,⟨F7 1,F7 0,F7 0⟩,by show (0:Nat)≤_;omega⟩
theorem au9 (nm:List UInt8) (h:nm.length≤100):aq2 (awR nm):=⟨⟨F7 5,F7 0,F7 0,F7 0,F7 0,F7 0⟩,by show (1:Nat)≤_;omega,⟨by show (0:Nat)≤_;omega,by show (1:Nat)≤_;omega⟩,fun r hr => by simp [awR] at hr,fun m hm => by
 obtain rfl:=List.mem_singleton.1 hm;exact aBi nm h⟩
theorem aBj:aq2 awB:=⟨⟨F7 1,F7 0,F7 0,F7 0,F7 0,F7 0⟩,by show (0:Nat)≤_;omega,⟨by show (0:Nat)≤_;omega,by show (0:Nat)≤_;omega⟩,fun r hr => by simp [awB] at hr,fun m hm => by simp [awB] at hm⟩
theorem axV:aq2 awI:=⟨⟨F7 2,by show I64 (-10);unfold I64;omega,by show I64 10;unfold I64;omega,F7 0,F7 0,F7 0⟩,by show (0:Nat)≤_;omega,⟨by show (0:Nat)≤_;omega,by show (0:Nat)≤_;omega⟩,fun r hr => by simp [awI] at hr,fun m hm => by simp [awI] at hm⟩
theorem awl {ts:List ay} (h:∀ x ∈ ts,aq2 x):Sizes ts:=fun x hx => by have:=(h x hx).lens;exact ⟨by omega,by omega⟩
theorem atX {w:World} {B:Nat} {x:ay} (hx:aq2 x) (h1:x.syms = []) (h2:x.ah = []):jc w B x (.slice none 0 0) (.slice none 0 0) :=
 ⟨hx.ints,hx.GI,by rw [h1,h2];simp,hx.QL,by rw [h1];exact Rd.nil_ w B 2,by rw [h2];exact ⟨fun _ => [],⟨none,0,rfl,Nat.le_refl _,.inl rfl⟩,fun i h => by simp at h⟩⟩
theorem rdI {w:World} {g:Nat} (h:Has w g 71 (Pq awI (.slice none 0 0) (.slice none 0 0)).toArray):aU w w.heap.size (.slice (some ⟨g,0,none⟩) 1 1) [awI]:=by
 refine ⟨fun _ => Pq awI (.slice none 0 0) (.slice none 0 0),⟨_,1,rfl,Nat.le_refl _,.inr ⟨g,0,rfl,h.here,fun i hi j u hu => ?_⟩⟩,fun i hi => ?_⟩
 ·
  simp only [List.length_singleton] at hi;obtain rfl:i=0:=by omega
  have:=h.cell j;rw [List.getElem?_toArray] at this;simpa using this.trans hu
 simp only [List.length_singleton] at hi;obtain rfl:i=0:=by omega
 exact ⟨_,_,rfl,atX axV rfl rfl⟩
theorem rd2 {w:World} {g gm:Nat} {nm:List UInt8} (hn:nm.length≤100) (h:Has w g 71 (Pq awB (.slice none 0 0) (.slice none 0 0) ++ Pq (awR nm) (.slice none 0 0) (.slice (some ⟨gm,0,none⟩) 1 1)).toArray) (hm:Has w gm 83 (ail (awM nm)).toArray):aU w w.heap.size (.slice (some ⟨g,0,none⟩) 2 2) (V4 nm):=by
 refine ⟨fun i => if i=0 then Pq awB (.slice none 0 0) (.slice none 0 0) else Pq (awR nm) (.slice none 0 0) (.slice (some ⟨gm,0,none⟩) 1 1),⟨_,2,rfl,Nat.le_refl _,.inr ⟨g,0,rfl,h.here,fun i hi j u hu => ?_⟩⟩,fun i hi => ?_⟩
 ·
  have hc:=h.cell (i*10+j);rw [List.getElem?_toArray] at hc;have hil:i=0∨i=1:=by have:i < 2:=hi;omega
  rcases hil with rfl | rfl
  ·
   dsimp only at hu;rw [if_pos rfl] at hu;have hj:j < 10:=by have:=(List.getElem?_eq_some_iff.1 hu).1;simpa [Pq] using this
   rw [List.getElem?_append_left (by simp [Pq];omega)] at hc;simpa using hc.trans (by simpa using hu)
  dsimp only at hu;rw [if_neg (by omega)] at hu;rw [List.getElem?_append_right (by simp [Pq]),show 1*10+j - (Pq awB (.slice none 0 0) (.slice none 0 0)).length=j by simp [Pq]] at hc;rw [Nat.zero_add];exact hc.trans hu
 have hil:i=0∨i=1:=by have:i < 2:=hi;omega
 rcases hil with rfl | rfl
 · exact ⟨_,_,rfl,atX aBj rfl rfl⟩
 refine ⟨_,_,rfl,⟨(au9 nm hn).ints,(au9 nm hn).GI,by show (0:Nat)≤_∧(1:Nat)≤_;omega,(au9 nm hn).QL,Rd.nil_ w _ 2,?_⟩⟩;refine ⟨fun _ => ail (awM nm),⟨_,1,rfl,Nat.le_refl _,.inr ⟨gm,0,rfl,hm.here,fun i hi j u hu => ?_⟩⟩,fun i hi => ?_⟩
 ·
  obtain rfl:i=0:=by have:i < 1:=hi;omega
  have hc:=hm.cell j;rw [List.getElem?_toArray] at hc;simpa using hc.trans hu
 obtain rfl:i=0:=by have:i < 1:=hi;omega
 exact ⟨_,_,_,rfl,(aBi nm hn).at_ w _⟩
theorem auR (nm:List UInt8) (hn:nm.length≤100) (w:World):Calls Tryz.prog 35 #[.string ⟨nm.toArray⟩] w fun e w' => ∃ g,e = .returned (.agg #[.slice (some ⟨g,0,none⟩) 2 2,.int .i64 1])∧aU w' w'.heap.size (.slice (some ⟨g,0,none⟩) 2 2) (V4 nm)∧Below w.heap.size w w':=by
 go_enter Tryz.func35,Tryz.ntmps35
 go_upto_region 1 with fail;refine aO (fun wd2 hb1 Z => ?_);have hw3:=hb1;clear hb1;go_upto_region 2 with fail;refine aO (fun fG hb4 M => ?_);have nI:=Z.out.here;have mO:=hw3.size;replace Z:=b1 Z hb4;replace hw3:=dT hw3 hb4;clear hb4;generalize wd2.heap.size=g6 at *;obtain ⟨iU,iD,je,mQ,kK,qU,qV,qW,qX,qY,oK,oL,oM⟩:=M.out.c13;go_wp2_with (refine sR ((Z.out.alloc _).alloc _) ?_)
 clear iU iD je mQ kK qU qV qW qX qY oK oL oM;generalize kQ:fG.alloc _=kL;generalize fU:kL.alloc _=lZ;have ⟨zU,E,T⟩:=an2 kQ fU;clear kQ fU;have qA:=Z.out.here;have alj:=M.out.here;have sO:=hw3.size;obtain ⟨Z,M⟩:=b2 Z M zU;replace hw3:=dT hw3 zU;clear zU;generalize fG.heap.size=g14 at *;generalize Bl:lZ.setRow _ _=yx;obtain ⟨M,E,T⟩:=f3 M E T (eR Bl);replace Z:=dV Z Bl;replace hw3:=tr hw3 Bl;clear Bl;exact bodyPost_ret (v:=.agg #[.slice (some ⟨g14+1,0,none⟩) 2 2,.int .i64 1]) (by simp [results,Tryz.results35,go_sem,Z.out.c2]) rfl (⟨_,rfl,rd2 hn T.out E.out,hw3⟩)
theorem aAu {W:World} {g:Nat} (hp:aj0 W) (h:Has W g 71 #[.int .i64 2,.string ⟨#[]⟩,.int .i64 (-10),.int .i64 10,.int .i64 0,.slice none 0 0,.slice none 0 0,.int .i64 0,.int .i64 0,.bool false]) :
  Calls Tryz.prog 22 #[.agg #[.slice (some ⟨g,0,none⟩) 1 1,.int .i64 0]] W fun e w' => e = .returned (.tuple #[.string ⟨#[1,2,19,20]⟩,.int .i64 0])∧Below W.heap.size W w' :=
 bytesOf (t:=0) asl (by simp) (fun x hx => by obtain rfl:=List.mem_singleton.1 hx;exact axV.ints.2 |> fun h => ⟨h.1,h.2.1⟩) axj (fun x hx m hm => by obtain rfl:=List.mem_singleton.1 hx;simp [awI] at hm) azp (by simp) (awl (fun x hx => by obtain rfl:=List.mem_singleton.1 hx;exact axV)) hp (rdI h)
theorem aDL (nm:List UInt8) (hn:nm.length≤100):∀ x ∈ V4 nm,aq2 x:=fun x hx => by
 simp only [V4,List.mem_cons,List.not_mem_nil,or_false] at hx;rcases hx with rfl | rfl
 · exact aBj
 exact au9 nm hn
theorem awm {W:World} {g:Nat} (nm:List UInt8) (h:nm = [97]∨nm = [98]) (hp:aj0 W) (hr:aU W W.heap.size (.slice (some ⟨g,0,none⟩) 2 2) (V4 nm)) :
  Calls Tryz.prog 22 #[.agg #[.slice (some ⟨g,0,none⟩) 2 2,.int .i64 1]] W fun e w' => e = .returned (.tuple #[.string ⟨#[2,5,1,3,2,1,1,1]⟩,.int .i64 0])∧Below W.heap.size W w' :=
 bytesOf (ts:=V4 nm) (t:=1) (aoF nm h) (by simp [V4]) (aoq nm).2.2 (aoq nm).1 (aoq nm).2.1 (auQ nm h) (by simp) (awl (aDL nm (by rcases h with rfl | rfl <;> simp))) hp hr
theorem aDq {W:World} {g:Nat} (hp:aj0 W) (hr:aU W W.heap.size (.slice (some ⟨g,0,none⟩) 2 2) (V4 [98])) :
  Calls Tryz.prog 16 #[.agg #[.slice (some ⟨g,0,none⟩) 2 2,.int .i64 1]] W fun e w' => e = .returned (.tuple #[.int .u64 (ak1 ak4 [2,5,1,3,2,1,1,1] : Nat),.int .i64 0])∧Below W.heap.size W w':=by
 have hb:=auQ [98] (.inr rfl);have h:=aAp (V4 [98]) (some ⟨g,0,none⟩) 2 1 W (by rw [hb];simp) (fun W2 hb2 => by
  rw [hb];exact awm [98] (.inr rfl) (hp.on hb2) (hr.on hb2))
 have e:fpE (V4 [98]) 1=(ak1 ak4 [2,5,1,3,2,1,1,1],0):=by unfold fpE;rw [hb,if_neg (by simp)]
 rw [e] at h;exact h
theorem aKn (n:Nat) (hn:n≤1000) (x:ay) (hx:aAZ n x) (hcs:x.kind=1∨x.kind=5) (r:List UInt8) (k gr:Nat) (w:World) (hp:∀ W,Below gr w W→ar5 W) (hr:Y6 w gr (dF x ++ r) k) :
  Calls Tryz.prog 62 #[.pointer (some ⟨gr,0,none⟩),.int .i64 (n:Nat)] w (akU gr r (unT x) w):=by
 obtain ⟨z1,z2,z3,z4,z5⟩:=U0 hx.form;obtain ⟨y1,y2,y3⟩:=form_nil hx.form;obtain ⟨-,hints,hm3,hm7,⟨hsl,hs⟩,⟨hml,hm⟩,hkey,helem,hname,hsn,hmn⟩:=hx;obtain ⟨xk,xn,xlo,xhi,xm,xs,xms,aCY,xel,xo⟩:=x;simp only at *;unfold dF at hr;simp only [List.append_assoc] at hr;rcases hcs with rfl | rfl
 ·
  simp at z2 z3 z4 z5 y1 y2 y3 hname hr;subst hname;obtain ⟨rfl,rfl⟩:=y1;subst z2;subst z3;subst z4;subst z5;subst y2;subst y3;exact aCI n r k gr w hr
 simp at z2 z3 z5 y1 y2 y3 hname hr;subst hname;obtain ⟨rfl,rfl⟩:=y1;subst z2;subst z3;subst z5;subst y2;subst y3;have h:=aCQ n hn (xms.map memT) (by simpa using hml) (aw6 hm) r k gr w hp (by rw [List.length_map,atJ];exact hr);rw [aw5 hm hmn] at h;exact h
theorem aLj {us:List ay} (h:arx us) (hB:∀ x ∈ us,∀ m ∈ x.ah,∀ y,bM us m.ty=some y→y.kind=1) {n:Nat} (hn:n < us.length) {m:Mem} (hm:m ∈ us[n].ah) (hd:m.eG=true) {y:ay} {ty:Nat} (hty:m.ty=(ty:Int)) (hyl:ty < us.length) (hyk:y.kind=us[ty].kind)
  (b o c k gr:Nat) (r:List UInt8) (w:World) (C1:Option Addr) (n1 l1:Nat) (C2:Option Addr) (n2 l2:Nat) (hbw:b < w.heap.size) (hx:NI w b (o+ty*10) y (.slice C1 n1 l1) (.slice C2 n2 l2)) (_:r.length≤1000000000000) (hr:Y6 w gr (Ap us m ++ r) k) :
  Calls Tryz.prog 64 #[.pointer (some ⟨gr,0,none⟩),.agg #[.slice (some ⟨b,o,none⟩) us.length c],.int .i64 (ty:Nat)] w (anM gr (aS m.dflt (.slice none 0 0) (.slice none 0 0) (.slice none 0 0)) r 0 w):=by
 have hxm:=List.getElem_mem hn;have hf:=h.dfl _ hxm m hm hd;have h0:=h.bare _ hxm m hm hd;have hy:bM us m.ty=some us[ty]:=by rw [hty,akQ,List.getElem?_eq_getElem hyl]
 have hform:=arz h.valid hy hf h0;have hyi:=h.ints _ (aoa hy);have hdm:Ap us m=gI us m.dflt m.ty:=by unfold Ap;rw [hd];rfl
 rw [hdm] at hr;cases hform with
 | bool bb hk hd he => rw [he] at hr;rw [hd];exact aCs bb y (hyk.trans hk) b o us.length c ty C1 n1 l1 C2 n2 l2 hyl r k gr w hbw hx hr
 | int q hk hd he hq => have:=hB _ hxm m hm _ hy;omega
 | str s hk hd he hs => have:=hB _ hxm m hm _ hy;omega
 | enum q hk hd he hq => have:=hB _ hxm m hm _ hy;omega
 | list q hk h7 hd he => have:=hB _ hxm m hm _ hy;omega
theorem aKo:aKy as9:=fun n hn r k gr W h1 h2 => aKn n (by simp [as9] at hn;omega) as9[n] (az4 azq n hn) (by
 have hm:=List.getElem_mem hn;generalize as9[n]=x at hm;simp only [as9,awB,List.mem_cons,List.not_mem_nil,or_false] at hm;rcases hm with rfl | rfl
 · exact .inr rfl
 exact .inl rfl) r k gr W h1 h2
theorem aKp:∀ x ∈ as9,∀ m ∈ x.ah,∀ y,bM as9 m.ty=some y→y.kind=1:=by
 intro x hx m hm y hy;simp only [as9,awB,List.mem_cons,List.not_mem_nil,or_false] at hx;rcases hx with rfl | rfl
 ·
  simp only [List.mem_cons,List.not_mem_nil,or_false] at hm;subst hm;have e:y=awB:=by
   have h2:bM as9 1=some awB:=rfl;exact Option.some.inj (hy.symm.trans h2)
  rw [e];rfl
 simp at hm
theorem azr {W:World} (hp:aj0 W):Calls Tryz.prog 28 #[.string ⟨#[2,5,1,3,2,1,1,1]⟩] W fun e w' => (∃ A c,e = .returned (.tuple #[.agg #[.slice A 2 c,.int .i64 0],.int .i64 0]))∧Below W.heap.size W w':=by
 have hv:=azq;have hc2:jk as9 0=as9:=by
  have h:=aBH (aoF [97] (.inl rfl)) (t:=1) (by simp [V4]);rwa [aui [97] (.inl rfl)] at h
 have h:=aJQ as9 hv aKo (fun _ hn _ hm hd _ _ => aLj hv aKp hn hm hd) (by rw [auj];simp) W hp (fun W2 A c hb hr => by
  have hxs:=asy hv as9.length 0;rw [← ar6] at hxs;have hbe:=arh hv.valid (t:=0) hv.pos hv.dfl;rw [hc2] at hbe;exact bytesOf hv.valid hv.pos hv.ints hv.dfl hv.bare hbe (by rw [auj];simp) (awl hxs) (hp.on hb) hr)
 rw [auj] at h;exact h.mono fun e w' ⟨A,c,h1,h2,h3⟩ => ⟨⟨A,c,h1⟩,h3⟩
theorem azs (W:World):Calls Tryz.prog 31 #[.int .u64 258,.string ⟨#[120]⟩] W fun e w' => e = .returned (.tuple #[.string ⟨#[0,0,0,0,0,0,1,2,120]⟩,.int .i64 0])∧Below W.heap.size W w' :=
 wrap_any 258 (by unfold oV;omega) [120] (by simp) W
theorem awL (W:World):Calls Tryz.prog 33 #[.string ⟨#[0,0,0,0,0,0,1,2,120]⟩] W fun e w' => e = .returned (.tuple #[.int .u64 258,.string ⟨#[120]⟩,.int .i64 0])∧Below W.heap.size W w' :=
 axU [0,0,0,0,0,0,1,2,120] (by simp) W
theorem Eb (w:World) (hp:aj0 w):Calls Tryz.prog 10 #[] w (RTq w (.bool true)):=by
 have HP:=hiQ hp;have HHS:Hid (∀ W,Calls Tryz.prog 36 #[.string ⟨#[2,5,1,3,2,1,1,1]⟩] W fun e w' => e = .returned (.int .u64 (ak1 ak4 [2,5,1,3,2,1,1,1]))∧W=w'):=fun W => azn [2,5,1,3,2,1,1,1] (by simp) W;have HOF:Hid (∀ (W:World) (g:Nat),aj0 W→aU W W.heap.size (.slice (some ⟨g,0,none⟩) 2 2) (V4 [98])→Calls Tryz.prog 16 #[.agg #[.slice (some ⟨g,0,none⟩) 2 2,.int .i64 1]] W fun e w' => e = .returned (.tuple #[.int .u64 (ak1 ak4 [2,5,1,3,2,1,1,1] : Nat),.int .i64 0])∧Below W.heap.size W w'):=fun W g h1 h2 => aDq h1 h2;generalize ak1 ak4 [2,5,1,3,2,1,1,1]=hh at *;clear hp;go_enter Tryz.func10,Tryz.ntmps10
 go_wp2_with fail;refine an3 (fun wd2 hb1 T => ?_);have hw3:=hb1;clear hb1;((with_reducible refine (aAu (HP.out.on hw3) T.out).mono ?_);rintro e wd4 ⟨rfl,hb5⟩);replace T:=b1 T hb5;replace hw3:=dT hw3 hb5;clear hb5 T;go_wp2_with fail;((with_reducible refine (auR [97] (by simp) _).mono ?_);rintro e wL ⟨g1,rfl,hr1,hb7⟩);replace hw3:=dT hw3 hb7;clear hb7;go_wp2_with fail;((with_reducible refine (awm [97] (.inl rfl) (HP.out.on hw3) hr1).mono ?_);rintro e qP ⟨rfl,zU⟩);replace hw3:=dT hw3 zU;clear zU hr1;go_wp2_with fail;((with_reducible refine (azr (HP.out.on hw3)).mono ?_);rintro e kL ⟨⟨A3,c3,rfl⟩,iR⟩);replace hw3:=dT hw3 iR;clear iR;go_upto_region 4 with fail;refine aO (fun dQ fV Y => ?_);have qA:=hw3.size;replace hw3:=dT hw3 fV;clear fV;generalize kL.heap.size=g14 at *;go_wp2_with fail;((with_reducible refine (auR [98] (by simp) _).mono ?_);rintro e yN ⟨g2,rfl,hr2,mG⟩);replace Y:=b1 Y mG;replace hw3:=dT hw3 mG;clear mG;go_wp2_with fail;((with_reducible refine (HOF.out _ _ (HP.out.on hw3) hr2).mono ?_);rintro e yx ⟨rfl,aln⟩);replace Y:=b1 Y aln;replace hw3:=dT hw3 aln;clear aln hr2;go_wp2_with fail;((with_reducible refine (azs _).mono ?_);rintro e yO ⟨rfl,gq⟩);replace Y:=b1 Y gq;replace hw3:=dT hw3 gq;clear gq;go_wp2_with fail;((with_reducible refine (awL _).mono ?_);rintro e lq ⟨rfl,oG⟩);replace Y:=b1 Y oG;replace hw3:=dT hw3 oG;clear oG;have kT:=Y.out.e0;go_wp2_with fail;clear kT;((with_reducible refine (HHS.out _).mono ?_);rintro e xP ⟨rfl,rfl⟩);exact zCm
def Ry:List (String × DataW Unit):=[("math/bits.deBruijn32tab", Rows.laid_math_bits_deBruijn32tab),("math/bits.deBruijn64tab", Rows.laid_math_bits_deBruijn64tab),("internal/strconv.uint64pow10", Rows.laid_internal_strconv_uint64pow10)]
theorem afm:(Rows.laid_internal_strconv_uint64pow10:DataW Unit)=Lib.tabData .u64 Lib.pow10Tab:=by rfl
theorem aho {W:World} (h:laidMetH Tryz.prog Ry W):ar5 W:=by
 rw [MakeChecks.laidMetH_plain _ _ _ (by kernel_rfl)] at h;obtain ⟨ps,⟨g0,t0,c0,f0,p0,q0,_,_,_,_,⟨g1,t1,c1,f1,p1,q1,_,_,_,_,⟨g2,t2,c2,f2,p2,q2,hg2,ht2,hv2,hd2,_,_⟩,_⟩,_⟩,_⟩:=h;obtain rfl:=Option.some.inj ((show Tryz.prog.globalNamed "internal/strconv.uint64pow10" = some 0 by kernel_rfl).symm.trans hg2);obtain rfl:=Option.some.inj ((show (Tryz.prog.globals[0]?).map (·.type)=some 215 by kernel_rfl).symm.trans ht2);rw [afm] at hd2;have hc:=Lib.cells_of_tab Tryz.underlying215 Tryz.underlying36 (by kernel_rfl) (by kernel_rfl) hd2;unfold ar5 Lib.TabIs;rw [hv2,← hc]
theorem door_met (os:Os) (args:Array Value):laidMetH Tryz.prog Ry ((World.doorLaid Tryz.prog 400 os).forCall (fun _ _ => 0) ⟨#[],args,[]⟩).memory :=
 laidMetH_of_parts3 (fuel:=8) (laidMet_of_run' 8 (by kernel_rfl) (by kernel_rfl)) (by kernel_rfl) (by kernel_rfl)
theorem aor {α:Type} (f:α→List UInt8) (K:Nat):∀ (l:List α),(∀ a ∈ l,(f a).length≤K)→(l.flatMap f).length≤K*l.length
 | [],_ => by simp
 | a :: r,h => by
  have h1:=h a (by simp);have h2:=aor f K r fun b hb => h b (by simp [hb]);rw [List.flatMap_cons,List.length_append,List.length_cons,Nat.mul_succ];omega
theorem agu (n:Nat):(pJ 9 n).length≤10:=by have:=qw 9 n;omega
theorem aul (n:Int):(akT n).length≤10:=agu _
theorem awq (b:Bool):(F6 b).length≤10:=agu _
theorem aAB {x:ay} (hs:x.syms.length≤16) (hm:x.ah.length≤1000):(dF x).length≤31000:=by
 have h1:(x.syms.flatMap fun s => pJ 9 s.1.toNat).length≤10*x.syms.length:=aor _ 10 _ fun s _ => agu _;have h2:(x.ah.flatMap BN).length≤30*x.ah.length:=aor _ 30 _ fun m _ => by
  unfold BN;rw [List.length_append,List.length_append];have a1:=agu m.id.toNat;have a2:=agu (MF m);have a3:=agu m.ty.toNat;omega
 have b1:=agu x.kind.toNat;have b2:=aul x.low;have b3:=aul x.high;have b4:=agu x.max.toNat;have b5:=awq x.opn;have b6:=agu x.syms.length;have b7:=agu x.ah.length;have b8:=agu x.elem.toNat;have b9:=agu x.key.toNat;unfold dF;rw [List.length_append]
 repeat' split
 all_goals try simp only [List.length_append,List.length_nil]
 all_goals omega
end Go.Proofs.YtlamhkffnlgofaaGreatDoor
