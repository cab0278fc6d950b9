/- The examples of the document hold: awake of layer 19. What the listed variables of layer 19 read as. Plain: the bytes of a valid schema with bare defaults are few. No condition. -/
import Derived.Test.YtlamhkffnlgofaaGreatDoorHAQ
import Derived.Test.YtlamhkffnlgofaaGreatDoorTie
import Derived.Test.YtlamhkffnlgofaaGreatDoorCards
import Derived.SevenTiedAt
import Derived.ProofKit
import Derived.LaidMore
import Derived.OpenShut
import Derived.Stop.Joined
import Derived.Lib.LaidTab
set_option maxHeartbeats 800000
set_option maxRecDepth 100000
namespace Go.Proofs.YtlamhkffnlgofaaGreatDoor
open Go.ChangeShapes Go.WideShapes Go.ChangeAt Go.RowKit
theorem bytesOf {ts:List ay} {l:List UInt8} {t:Nat} (hv:fF ts=0) (ht:t < ts.length) (hI:akg ts) (hD:acM ts) (h0:aqB ts) (he:aj2 ts t=(l,0)) (hl:l.length≤1000000000000) (hs:Sizes ts) {w:World} (hp:aj0 w) {A:Option Addr} {c:Nat}
  (hr:aU w w.heap.size (.slice A ts.length c) ts):Calls Tryz.prog 22 #[.agg #[.slice A ts.length c,.int .i64 (t:Nat)]] w (RT w (.tuple #[.string ⟨l.toArray⟩,.int .i64 0])):=by
 have hb:=arh hv ht hD;rw [he] at hb;have hll:(BN (og ts t)).length≤1000000000000:=by rw [← (Prod.mk.inj hb).1];exact hl
 have h:=ayD ts A c (t:Nat) w hs hr hp hI (fun _ _ => by rw [Int.toNat_natCast];exact hll) (fun _ _ => by
  rw [Int.toNat_natCast];exact avs (akP hv ht) (ari hv ht hI) (aoU hv ht hD) (as7 hv ht h0))
 rw [he] at h;exact h
theorem aBi (nm:List UInt8) (h:nm.length≤100):ar4 (awM nm):=⟨⟨F6 3,F6 0⟩,by show nm.length≤_;omega,⟨rfl,rfl,rfl⟩,⟨F6 1,F6 0,F6 0⟩,by show (0:Nat)≤_;omega⟩
theorem au9 (nm:List UInt8) (h:nm.length≤100):aq2 (awR nm):=⟨⟨F6 5,F6 0,F6 0,F6 0,F6 0,F6 0⟩,by show (1:Nat)≤_;omega,⟨by show (0:Nat)≤_;omega,by show (1:Nat)≤_;omega⟩,fun r hr => by simp [awR] at hr,fun m hm => by
 obtain rfl:=List.mem_singleton.1 hm;exact aBi nm h⟩
theorem aBj:aq2 awB:=⟨⟨F6 1,F6 0,F6 0,F6 0,F6 0,F6 0⟩,by show (0:Nat)≤_;omega,⟨by show (0:Nat)≤_;omega,by show (0:Nat)≤_;omega⟩,fun r hr => by simp [awB] at hr,fun m hm => by simp [awB] at hm⟩
theorem axV:aq2 awI:=⟨⟨F6 2,by show I64 (-10);unfold I64;omega,by show I64 10;unfold I64;omega,F6 0,F6 0,F6 0⟩,by show (0:Nat)≤_;omega,⟨by show (0:Nat)≤_;omega,by show (0:Nat)≤_;omega⟩,fun r hr => by simp [awI] at hr,fun m hm => by simp [awI] at hm⟩
theorem awl {ts:List ay} (h:∀ x ∈ ts,aq2 x):Sizes ts:=fun x hx => by have:=(h x hx).lens;exact ⟨by omega,by omega⟩
theorem atX {w:World} {B:Nat} {x:ay} (hx:aq2 x) (h1:x.syms = []) (h2:x.ah = []):jc w B x (.slice none 0 0) (.slice none 0 0) :=
 ⟨hx.ints,hx.GI,by rw [h1,h2];simp,hx.QL,by rw [h1];exact Rd.nil_ w B 2,by rw [h2];exact ⟨fun _ => [],⟨none,0,rfl,Nat.le_refl _,.inl rfl⟩,fun i h => by simp at h⟩⟩
theorem rdI {w:World} {g:Nat} (h:Has w g 71 (Pq awI (.slice none 0 0) (.slice none 0 0)).toArray):aU w w.heap.size (.slice (some ⟨g,0,none⟩) 1 1) [awI]:=by
 refine ⟨fun _ => Pq awI (.slice none 0 0) (.slice none 0 0),⟨_,1,rfl,Nat.le_refl _,.inr ⟨g,0,rfl,h.here,fun i hi j u hu => ?_⟩⟩,fun i hi => ?_⟩
 ·
  simp only [List.length_singleton] at hi;obtain rfl:i=0:=by omega
  have:=h.cell j;rw [List.getElem?_toArray] at this;simpa using this.trans hu
 simp only [List.length_singleton] at hi;obtain rfl:i=0:=by omega
 exact ⟨_,_,rfl,atX axV rfl rfl⟩
theorem rd2 {w:World} {g gm:Nat} {nm:List UInt8} (hn:nm.length≤100) (h:Has w g 71 (Pq awB (.slice none 0 0) (.slice none 0 0) ++ Pq (awR nm) (.slice none 0 0) (.slice (some ⟨gm,0,none⟩) 1 1)).toArray) (hm:Has w gm 83 (ail (awM nm)).toArray):aU w w.heap.size (.slice (some ⟨g,0,none⟩) 2 2) (KP nm):=by
 refine ⟨fun i => if i=0 then Pq awB (.slice none 0 0) (.slice none 0 0) else Pq (awR nm) (.slice none 0 0) (.slice (some ⟨gm,0,none⟩) 1 1),⟨_,2,rfl,Nat.le_refl _,.inr ⟨g,0,rfl,h.here,fun i hi j u hu => ?_⟩⟩,fun i hi => ?_⟩
 ·
  have hc:=h.cell (i*10+j);rw [List.getElem?_toArray] at hc;have hil:i=0∨i=1:=by have:i < 2:=hi;omega
  rcases hil with rfl | rfl
  ·
   dsimp only at hu;rw [if_pos rfl] at hu;have hj:j < 10:=by have:=(List.getElem?_eq_some_iff.1 hu).1;simpa [Pq] using this
   rw [List.getElem?_append_left (by simp [Pq];omega)] at hc;simpa using hc.trans (by simpa using hu)
  dsimp only at hu;rw [if_neg (by omega)] at hu;rw [List.getElem?_append_right (by simp [Pq]),show 1*10+j - (Pq awB (.slice none 0 0) (.slice none 0 0)).length=j by simp [Pq]] at hc;rw [Nat.zero_add];exact hc.trans hu
 have hil:i=0∨i=1:=by have:i < 2:=hi;omega
 rcases hil with rfl | rfl
 · exact ⟨_,_,rfl,atX aBj rfl rfl⟩
 refine ⟨_,_,rfl,⟨(au9 nm hn).ints,(au9 nm hn).GI,by show (0:Nat)≤_∧(1:Nat)≤_;omega,(au9 nm hn).QL,Rd.nil_ w _ 2,?_⟩⟩;refine ⟨fun _ => ail (awM nm),⟨_,1,rfl,Nat.le_refl _,.inr ⟨gm,0,rfl,hm.here,fun i hi j u hu => ?_⟩⟩,fun i hi => ?_⟩
 ·
  obtain rfl:i=0:=by have:i < 1:=hi;omega
  have hc:=hm.cell j;rw [List.getElem?_toArray] at hc;simpa using hc.trans hu
 obtain rfl:i=0:=by have:i < 1:=hi;omega
 exact ⟨_,_,_,rfl,(aBi nm hn).at_ w _⟩
theorem auR (nm:List UInt8) (hn:nm.length≤100) (w:World):Calls Tryz.prog 35 #[.string ⟨nm.toArray⟩] w fun e w' => ∃ g,e = .returned (.agg #[.slice (some ⟨g,0,none⟩) 2 2,.int .i64 1])∧aU w' w'.heap.size (.slice (some ⟨g,0,none⟩) 2 2) (KP nm)∧Below w.heap.size w w':=by
 go_enter Tryz.func35,Tryz.ntmps35
 go_upto_region 1 with fail;refine aO (fun wd2 hb1 Z => ?_);have hw3:=hb1;clear hb1;go_upto_region 2 with fail;refine aO (fun fG hb4 M => ?_);have nI:=Z.out.here;have mO:=hw3.size;replace Z:=b1 Z hb4;replace hw3:=dT hw3 hb4;clear hb4;generalize wd2.heap.size=g6 at *;obtain ⟨iU,iD,je,mQ,kK,qU,qV,qW,qX,qY,oK,oL,oM⟩:=M.out.c13;go_wp2_with (refine sR ((Z.out.alloc _).alloc _) ?_)
 clear iU iD je mQ kK qU qV qW qX qY oK oL oM;generalize kQ:fG.alloc _=kL;generalize fU:kL.alloc _=lZ;have ⟨zU,E,T⟩:=an2 kQ fU;clear kQ fU;have qA:=Z.out.here;have alj:=M.out.here;have sO:=hw3.size;obtain ⟨Z,M⟩:=b2 Z M zU;replace hw3:=dT hw3 zU;clear zU;generalize fG.heap.size=g14 at *;generalize Bl:lZ.setRow _ _=yx;obtain ⟨M,E,T⟩:=f3 M E T (eR Bl);replace Z:=dV Z Bl;replace hw3:=tr hw3 Bl;clear Bl;exact bodyPost_ret (v:=.agg #[.slice (some ⟨g14+1,0,none⟩) 2 2,.int .i64 1]) (by simp [results,Tryz.results35,go_sem,Z.out.c2]) rfl (⟨_,rfl,rd2 hn T.out E.out,hw3⟩)
theorem aAu {W:World} {g:Nat} (hp:aj0 W) (h:Has W g 71 #[.int .i64 2,.string ⟨#[]⟩,.int .i64 (-10),.int .i64 10,.int .i64 0,.slice none 0 0,.slice none 0 0,.int .i64 0,.int .i64 0,.bool false]) :
  Calls Tryz.prog 22 #[.agg #[.slice (some ⟨g,0,none⟩) 1 1,.int .i64 0]] W fun e w' => e = .returned (.tuple #[.string ⟨#[1,2,19,20]⟩,.int .i64 0])∧Below W.heap.size W w' :=
 bytesOf (t:=0) asl (by simp) (fun x hx => by obtain rfl:=List.mem_singleton.1 hx;exact axV.ints.2 |> fun h => ⟨h.1,h.2.1⟩) axj (fun x hx m hm => by obtain rfl:=List.mem_singleton.1 hx;simp [awI] at hm) azp (by simp) (awl (fun x hx => by obtain rfl:=List.mem_singleton.1 hx;exact axV)) hp (rdI h)
theorem aDL (nm:List UInt8) (hn:nm.length≤100):∀ x ∈ KP nm,aq2 x:=fun x hx => by
 simp only [KP,List.mem_cons,List.not_mem_nil,or_false] at hx;rcases hx with rfl | rfl
 · exact aBj
 exact au9 nm hn
theorem awm {W:World} {g:Nat} (nm:List UInt8) (h:nm = [97]∨nm = [98]) (hp:aj0 W) (hr:aU W W.heap.size (.slice (some ⟨g,0,none⟩) 2 2) (KP nm)) :
  Calls Tryz.prog 22 #[.agg #[.slice (some ⟨g,0,none⟩) 2 2,.int .i64 1]] W fun e w' => e = .returned (.tuple #[.string ⟨#[2,5,1,3,2,1,1,1]⟩,.int .i64 0])∧Below W.heap.size W w' :=
 bytesOf (ts:=KP nm) (t:=1) (aoF nm h) (by simp [KP]) (aoq nm).2.2 (aoq nm).1 (aoq nm).2.1 (auQ nm h) (by simp) (awl (aDL nm (by rcases h with rfl | rfl <;> simp))) hp hr
theorem aDq {W:World} {g:Nat} (hp:aj0 W) (hr:aU W W.heap.size (.slice (some ⟨g,0,none⟩) 2 2) (KP [98])) :
  Calls Tryz.prog 16 #[.agg #[.slice (some ⟨g,0,none⟩) 2 2,.int .i64 1]] W fun e w' => e = .returned (.tuple #[.int .u64 (ak1 ak4 [2,5,1,3,2,1,1,1] : Nat),.int .i64 0])∧Below W.heap.size W w':=by
 have hb:=auQ [98] (.inr rfl);have h:=aAp (KP [98]) (some ⟨g,0,none⟩) 2 1 W (by rw [hb];simp) (fun W2 hb2 => by
  rw [hb];exact awm [98] (.inr rfl) (hp.on hb2) (hr.on hb2))
 have e:fpE (KP [98]) 1=(ak1 ak4 [2,5,1,3,2,1,1,1],0):=by unfold fpE;rw [hb,if_neg (by simp)]
 rw [e] at h;exact h
theorem azr {W:World} (hp:aj0 W):Calls Tryz.prog 28 #[.string ⟨#[2,5,1,3,2,1,1,1]⟩] W fun e w' => (∃ A c,e = .returned (.tuple #[.agg #[.slice A 2 c,.int .i64 0],.int .i64 0]))∧Below W.heap.size W w':=by
 have hv:=azq;have hc2:og as9 0=as9:=by
  have h:=aBH (aoF [97] (.inl rfl)) (t:=1) (by simp [KP]);rwa [aui [97] (.inl rfl)] at h
 have h:=az6 as9 hv (by rw [auj];simp) W hp (fun W2 A c hb hr => by
  have hxs:=asy hv as9.length 0;rw [← ar6] at hxs;have hbe:=arh hv.valid (t:=0) hv.pos hv.dfl;rw [hc2] at hbe;exact bytesOf hv.valid hv.pos hv.ints hv.dfl hv.bare hbe (by rw [auj];simp) (awl hxs) (hp.on hb) hr)
 rw [auj] at h;exact h.mono fun e w' ⟨A,c,h1,h2,h3⟩ => ⟨⟨A,c,h1⟩,h3⟩
theorem azs (W:World):Calls Tryz.prog 31 #[.int .u64 258,.string ⟨#[120]⟩] W fun e w' => e = .returned (.tuple #[.string ⟨#[0,0,0,0,0,0,1,2,120]⟩,.int .i64 0])∧Below W.heap.size W w' :=
 wrap_any 258 (by unfold oV;omega) [120] (by simp) W
theorem awL (W:World):Calls Tryz.prog 33 #[.string ⟨#[0,0,0,0,0,0,1,2,120]⟩] W fun e w' => e = .returned (.tuple #[.int .u64 258,.string ⟨#[120]⟩,.int .i64 0])∧Below W.heap.size W w' :=
 axU [0,0,0,0,0,0,1,2,120] (by simp) W
theorem Eb (w:World) (hp:aj0 w):Calls Tryz.prog 10 #[] w (RT w (.bool true)):=by
 have HP:=hiQ hp;have HHS:Hid (∀ W,Calls Tryz.prog 36 #[.string ⟨#[2,5,1,3,2,1,1,1]⟩] W fun e w' => e = .returned (.int .u64 (ak1 ak4 [2,5,1,3,2,1,1,1]))∧W=w'):=fun W => azn [2,5,1,3,2,1,1,1] (by simp) W;have HOF:Hid (∀ (W:World) (g:Nat),aj0 W→aU W W.heap.size (.slice (some ⟨g,0,none⟩) 2 2) (KP [98])→Calls Tryz.prog 16 #[.agg #[.slice (some ⟨g,0,none⟩) 2 2,.int .i64 1]] W fun e w' => e = .returned (.tuple #[.int .u64 (ak1 ak4 [2,5,1,3,2,1,1,1] : Nat),.int .i64 0])∧Below W.heap.size W w'):=fun W g h1 h2 => aDq h1 h2;generalize ak1 ak4 [2,5,1,3,2,1,1,1]=hh at *;clear hp;go_enter Tryz.func10,Tryz.ntmps10
 go_wp2_with fail;refine an3 (fun wd2 hb1 T => ?_);have hw3:=hb1;clear hb1;((with_reducible refine (aAu (HP.out.on hw3) T.out).mono ?_);rintro e wd4 ⟨rfl,hb5⟩);replace T:=b1 T hb5;replace hw3:=dT hw3 hb5;clear hb5 T;go_wp2_with fail;((with_reducible refine (auR [97] (by simp) _).mono ?_);rintro e wL ⟨g1,rfl,hr1,hb7⟩);replace hw3:=dT hw3 hb7;clear hb7;go_wp2_with fail;((with_reducible refine (awm [97] (.inl rfl) (HP.out.on hw3) hr1).mono ?_);rintro e qP ⟨rfl,zU⟩);replace hw3:=dT hw3 zU;clear zU hr1;go_wp2_with fail;((with_reducible refine (azr (HP.out.on hw3)).mono ?_);rintro e kL ⟨⟨A3,c3,rfl⟩,iR⟩);replace hw3:=dT hw3 iR;clear iR;go_upto_region 4 with fail;refine aO (fun dQ fV Y => ?_);have qA:=hw3.size;replace hw3:=dT hw3 fV;clear fV;generalize kL.heap.size=g14 at *;go_wp2_with fail;((with_reducible refine (auR [98] (by simp) _).mono ?_);rintro e yN ⟨g2,rfl,hr2,mG⟩);replace Y:=b1 Y mG;replace hw3:=dT hw3 mG;clear mG;go_wp2_with fail;((with_reducible refine (HOF.out _ _ (HP.out.on hw3) hr2).mono ?_);rintro e yx ⟨rfl,aln⟩);replace Y:=b1 Y aln;replace hw3:=dT hw3 aln;clear aln hr2;go_wp2_with fail;((with_reducible refine (azs _).mono ?_);rintro e yO ⟨rfl,gq⟩);replace Y:=b1 Y gq;replace hw3:=dT hw3 gq;clear gq;go_wp2_with fail;((with_reducible refine (awL _).mono ?_);rintro e lq ⟨rfl,oG⟩);replace Y:=b1 Y oG;replace hw3:=dT hw3 oG;clear oG;have kT:=Y.out.e0;go_wp2_with fail;clear kT;((with_reducible refine (HHS.out _).mono ?_);rintro e xP ⟨rfl,rfl⟩);exact zDb
def Ry:List (String × DataW Unit):=[("math/bits.deBruijn32tab", Rows.laid_math_bits_deBruijn32tab),("math/bits.deBruijn64tab", Rows.laid_math_bits_deBruijn64tab),("internal/strconv.uint64pow10", Rows.laid_internal_strconv_uint64pow10)]
theorem afm:(Rows.laid_internal_strconv_uint64pow10:DataW Unit)=Lib.tabData .u64 Lib.pow10Tab:=by rfl
theorem aho {W:World} (h:laidMetH Tryz.prog Ry W):ar5 W:=by
 rw [MakeChecks.laidMetH_plain _ _ _ (by kernel_rfl)] at h;obtain ⟨ps,⟨g0,t0,c0,f0,p0,q0,_,_,_,_,⟨g1,t1,c1,f1,p1,q1,_,_,_,_,⟨g2,t2,c2,f2,p2,q2,hg2,ht2,hv2,hd2,_,_⟩,_⟩,_⟩,_⟩:=h;obtain rfl:=Option.some.inj ((show Tryz.prog.globalNamed "internal/strconv.uint64pow10" = some 0 by kernel_rfl).symm.trans hg2);obtain rfl:=Option.some.inj ((show (Tryz.prog.globals[0]?).map (·.type)=some 215 by kernel_rfl).symm.trans ht2);rw [afm] at hd2;have hc:=Lib.cells_of_tab Tryz.underlying215 Tryz.underlying36 (by kernel_rfl) (by kernel_rfl) hd2;unfold ar5 Lib.TabIs;rw [hv2,← hc]
theorem door_met (os:Os) (args:Array Value):laidMetH Tryz.prog Ry ((World.doorLaid Tryz.prog 400 os).forCall (fun _ _ => 0) ⟨#[],args,[]⟩).memory :=
 laidMetH_of_parts3 (fuel:=8) (laidMet_of_run' 8 (by kernel_rfl) (by kernel_rfl)) (by kernel_rfl) (by kernel_rfl)
theorem aor {α:Type} (f:α→List UInt8) (K:Nat):∀ (l:List α),(∀ a ∈ l,(f a).length≤K)→(l.flatMap f).length≤K*l.length
 | [],_ => by simp
 | a :: r,h => by
  have h1:=h a (by simp);have h2:=aor f K r fun b hb => h b (by simp [hb]);rw [List.flatMap_cons,List.length_append,List.length_cons,Nat.mul_succ];omega
theorem agu (n:Nat):(pJ 9 n).length≤10:=by have:=qw 9 n;omega
theorem aul (n:Int):(akT n).length≤10:=agu _
theorem awq (b:Bool):(Z4 b).length≤10:=agu _
theorem aAB {x:ay} (hs:x.syms.length≤16) (hm:x.ah.length≤1000):(kS x).length≤31000:=by
 have h1:(x.syms.flatMap fun s => pJ 9 s.1.toNat).length≤10*x.syms.length:=aor _ 10 _ fun s _ => agu _;have h2:(x.ah.flatMap LY).length≤30*x.ah.length:=aor _ 30 _ fun m _ => by
  unfold LY;rw [List.length_append,List.length_append];have a1:=agu m.id.toNat;have a2:=agu (O4 m);have a3:=agu m.ty.toNat;omega
 have b1:=agu x.kind.toNat;have b2:=aul x.low;have b3:=aul x.high;have b4:=agu x.max.toNat;have b5:=awq x.opn;have b6:=agu x.syms.length;have b7:=agu x.ah.length;have b8:=agu x.elem.toNat;have b9:=agu x.key.toNat;unfold kS;rw [List.length_append]
 repeat' split
 all_goals try simp only [List.length_append,List.length_nil]
 all_goals omega
theorem azA {ts:List ay} {v:Val} {t:Int} (h:cO ts true v t=true):∃ x,bM ts t=some x:=by
 cases hx:bM ts t with
 | some x => exact ⟨x,rfl⟩
 | none => cases v;rw [cO,hx] at h;cases h
theorem aAC {ts:List ay} (hv:fF ts=0) (hD:acM ts) (h0:aqB ts) {x:ay} (hx:x ∈ ts) (hm:x.ah.length≤1000):(Y0 ts x).length≤210000:=by
 have h1:(Y0 ts x).length≤210*x.ah.length:=aor _ 210 _ fun m hmm => by
  unfold FP;cases hd:m.eG with
  | false => simp
  | true =>
   rw [if_pos rfl];have hf:=hD x hx m hmm hd;obtain ⟨y,hy⟩:=azA hf;rcases arz hv hy hf (h0 x hx m hmm hd) with ⟨b,_,_,he⟩ | ⟨n,_,_,he,_⟩ | ⟨s,_,_,he,hs⟩ | ⟨n,_,_,he,_⟩ | ⟨k,_,_,_,he⟩
   · rw [he];have:=awq b;omega
   · rw [he];have:=aul n;omega
   · rw [he,List.length_append];have:=agu s.length;omega
   · rw [he];have:=agu n.toNat;omega
   rw [he];have:=agu 0;omega
 omega
theorem azB {ts:List ay} (hv:fF ts=0) (hD:acM ts) (h0:aqB ts):(BN ts).length≤10000000:=by
 have hg:=akN hv;have h1:(ts.flatMap kS).length≤31000*ts.length:=aor _ _ _ fun x hx => aAB (avm ((nG hv).2 x hx).1) (hg.ah x hx);have h2:(ts.flatMap (Y0 ts)).length≤210000*ts.length:=aor _ _ _ fun x hx => aAC hv hD h0 hx (hg.ah x hx);have h3:=agu ts.length;have h4:=hg.len;unfold BN;rw [List.length_append,List.length_append];omega
theorem aBn {ts:List ay} (hv:fF ts=0) {t:Nat} (ht:t < ts.length) (hD:acM ts) (h0:aqB ts):aj2 ts t=(BN (og ts t),0)∧(BN (og ts t)).length≤1000000000000:=by
 refine ⟨arh hv ht hD,?_⟩;have:=azB (akP hv ht) (aoU hv ht hD) (as7 hv ht h0);omega
end Go.Proofs.YtlamhkffnlgofaaGreatDoor
