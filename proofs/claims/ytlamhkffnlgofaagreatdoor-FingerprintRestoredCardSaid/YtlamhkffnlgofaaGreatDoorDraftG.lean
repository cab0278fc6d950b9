/- What Of computes for a draft. No condition. -/
import Derived.Test.YtlamhkffnlgofaaGreatDoorHAT
import Derived.Deep.RegionLaw
set_option maxHeartbeats 4000000
set_option maxRecDepth 100000
namespace Go.Proofs.YtlamhkffnlgofaaGreatDoor
open Go.ChangeShapes Go.WideShapes Go.ChangeAt Go.RowKit
theorem Ec (w:World) (p:Addr):w.drew.cell? p=w.cell? p:=rfl
theorem abx {w w':World} {base B g cap0 n0:Nat} {e:TypeId} {size n:Nat} {xs:List Value} (h:w.ownsRow base e size (.slice (some ⟨g,0,none⟩) n0 cap0) n xs) (hg:g < B) (hk:∀ k:Nat,base≤k→k < B→w'.heap[k]?=w.heap[k]?):w'.ownsRow base e size (.slice (some ⟨g,0,none⟩) n0 cap0) n xs:=by
 obtain ⟨h1,h2⟩:=h;refine ⟨h1,?_⟩;rcases h2 with ⟨hv,_⟩ | ⟨g',cap,cur,hv,hb,hh,h3⟩
 · cases hv
 injection hv with hv1 hv2 hv3;injection hv1 with hv1;injection hv1 with hv1;subst hv1;exact .inr ⟨g,cap,cur,by rw [hv2,hv3],hb,by rw [hk g hb hg,hh],h3⟩
theorem Kept.amd {w:World} {base B g cap0 n0:Nat} {e:TypeId} {size n:Nat} {xs:List Value} (h:w.ownsRow base e size (.slice (some ⟨g,0,none⟩) n0 cap0) n xs) (hg:g < B) (hB:B≤w.heap.size):Kept (fun w => w.ownsRow base e size (.slice (some ⟨g,0,none⟩) n0 cap0) n xs) w base B :=
 ⟨h,fun _ hk => abx h hg hk,hB⟩
theorem aby {w:World} {base g n0 cap0:Nat} {e:TypeId} {n:Nat} {xs:List Value} (h:w.ownsRow base e 1 (.slice (some ⟨g,0,none⟩) n0 cap0) n xs):∀ (j:Nat) (u:Value),xs[j]?=some u→w.cell? ⟨g,j,none⟩=some u:=fun j u hu => by
 have:=h.cells (g:=g) rfl j u hu;have e:(⟨g,0,none⟩ : Addr).add j=⟨g,j,none⟩:=by unfold Addr.add;split <;> simp_all
 rwa [e] at this
theorem aip {w:World} {base:Nat} {e:TypeId} {size n:Nat} {v:Value} {xs:List Value} (h:w.ownsRow base e size v n xs) {r:Option Nat} (hr:∀ k,r=some k→k < base):KD v r:=by
 cases hv:v.ownBlock with
 | none => exact .inl hv
 | some k =>
  right
  rw [hv];intro he;have h1:=(h.lt k hv).1;have h2:=hr k he.symm;omega
theorem abz (c:Nat) (y:Int):tN c y = [UInt8.ofNat c,UInt8.ofNat (97+y).toNat]:=rfl
theorem abA {w:World} {L base B:Nat} {r:Option Nat} {v:Value} {ts:List ay} {cs:List Value} (hO:Kept (fun w => w.ownsRow base 71 10 v ts.length cs) w base B) (hT:Kept (fun w => jP w base r ts cs) w base B) (hL:L≤base):Kept (fun w => aU w w.heap.size v ts) w L w.heap.size :=
 ⟨Yw hO.now hT.now,fun w' hk => Yw (hO.st w' (fun k h1 h2 => hk k (Nat.le_trans hL h1) (Nat.lt_of_lt_of_le h2 hO.le))) (hT.st w' (fun k h1 h2 => hk k (Nat.le_trans hL h1) (Nat.lt_of_lt_of_le h2 hO.le))),Nat.le_refl _⟩
def abB (xs:List fJ) (w:World) (e:Ending) (w':World):Prop := ∃ v,e = .returned (.tuple #[.agg #[v],.bool true])∧Kept (fun w => aU w w.heap.size v (jw xs)) w' w.heap.size w'.heap.size∧Below w.heap.size w w'
def akj (w wr:World) (gS:Nat) (vn:Value) (xs:List fJ) (k:Nat):Prop :=
 ∃ v cs,Has wr w.heap.size 49 #[vn]∧Has wr (w.heap.size+1) 25 #[.slice none 0 0]∧Has wr gS 25 #[v] ∧
  wr.ownsRow (gS+1) 71 10 v k cs∧jP wr (gS+1) v.ownBlock ((jw xs).take k) cs∧Below w.heap.size w wr
theorem adQ:(Tryz.prog.info? 105).map (fun i => (i.zero,i.size,i.bytes))=some (some (.agg #[.int .i64 0,.string ByteArray.empty]),2,24):=by kernel_rfl
theorem vW:(Tryz.prog.info? 71).map (fun i => (i.zero,i.size,i.bytes))=some (some (.agg #[.int .i64 0,.string ByteArray.empty,.int .i64 0,.int .i64 0,.int .i64 0,.slice none 0 0,.slice none 0 0,.int .i64 0,.int .i64 0,.bool false]),10,120):=by kernel_rfl
theorem zCt {p:Prop} (h:p:=by
 clear hno h1 hr;go_enter Tryz.func26,Tryz.ntmps26
 go_upto_region 1 with fail;refine jg (fun wd2 hb1 D R => ?_);have hw3:=hb1;clear hb1;have dW:=D.out.e0;go_upto_region 3 with fail;clear dW;have iV:=R.out.e0;have rM:=R.out.free 0;go_wp2_with fail;clear iV rM;generalize nH:wd2.setCell _ _=wd4;replace D:=f1 D (eF nH);replace R:=xR R nH;replace hw3:=tf hw3 nH;clear nH;exact bodyPost_ret (v:=.tuple #[.agg #[.slice none 0 0],.bool false]) (by simp [results,Tryz.results26,go_sem,R.out.e0]) rfl (⟨rfl,hw3⟩)):p:=h
theorem akk (xs:List fJ) (vn:Value) (w:World) (hno:Vu xs=false) (hr:jR w w.heap.size vn xs) :
  Calls Tryz.prog 26 #[.agg #[vn]] w (RT w (.tuple #[.agg #[.slice none 0 0],.bool false])):=by
 obtain ⟨A,c,rfl,hcap⟩:=hr.form;by_cases h1:xs.length < 1
 ·
  have t1:decide ((xs.length:Int) < 1)=true:=decide_eq_true (by omega);have t0:(xs.length:Int) < 1:=by omega
  exact zCt
 have t1:decide ((xs.length:Int) < 1)=false:=decide_eq_false (by omega);have t2:decide (5 < (xs.length:Int))=true:=by
  refine decide_eq_true ?_;unfold Vu at hno;simp at hno;omega
 have t0:(1:Int)≤xs.length:=by omega
 exact zCt
theorem zAl {p:Prop} (h:p:=by exact (cell_far w1 gT 5 _ ⟨gi,kk,none⟩ (by show gi≠gT;omega)).trans O9):p:=h
theorem zAu {p:Prop} (h:p:=by
 subst hWS;have gK:=hw;clear hw;obtain ⟨aC,bH,bQ,acX,aW,bP,bf,bF,aV,aJ⟩:=T.out.c10;have aH:=S.out.e0;have akO:=S.out.free 0;go_upto_region 39 with fail;have hbase:gS+1≤nJ.heap.size:=S.out.here;go_wp2_with (at_builtin;refine fA rfl _ _ _ rfl (gS+1) 71 _ 10 120 Tryz.underlying23 vW rfl (by decide) (.slice A0 k c0) k cs rfl O.out.now _ _ 1 _ rfl rfl rfl (by simp [Value.oneCell']) (by omega) (by omega) hbase ?_;intro g cap w3 hown3 hg3 hgat hb3;have aH:w3.cell? ⟨gS,0,none⟩=some (.slice A0 k c0):=(S.out.below hb3 (by omega)).cell 0;have akO:=(S.out.below hb3 (by omega)).free 0)
 have nK:(Value.slice (some ⟨g,0,none⟩) (k+1) cap).ownBlock=(Value.slice A0 k c0).ownBlock∨(Value.slice (some ⟨g,0,none⟩) (k+1) cap).ownBlock=some (nJ.heap.size+1):=by
  rcases hgat with h | h
  · left;rw [h];rfl
  right;rw [h];rfl
 have hty:=jP.snoc _ _ _ _ _ TO.out.now ⟨by first | exact World.ownsRow_nil _ _ _ _ | exact KE.out,by first | exact World.ownsRow_nil _ _ _ _ | exact JX.out⟩ (by first | exact .inl rfl | exact hss) (by first | exact .inl rfl | exact hsm) AQ.out;have qC:=hty.grown hg3 (Nat.le_succ _) nK;clear hty hg3 hgat nK aC bH bQ acX aW bP bf bF aV aJ aH akO T X O TO;replace D:=hiQ (D.out.below hb3 (show w.heap.size < gS+1 by omega));replace R:=hiQ (R.out.below hb3 (show w.heap.size+1 < gS+1 by omega));replace S:=hiQ (S.out.below hb3 (show gS < gS+1 by omega));replace gK:=gK.trans (hb3.mono (show w.heap.size≤gS+1 by omega));have O2:=hiQ (Kept.own hown3);have qE:=hiQ (Kept.typs qC);clear hown3 qC;generalize iZ:w3.setCell _ _=DY;obtain ⟨D,R,O2,qE⟩:=f4 D R O2 qE (eF iZ);replace S:=xR S iZ;replace gK:=tf gK iZ;clear iZ;go_wp2_with fail;go_roundw
 case rel => exact ⟨k+1,by omega,by go_num,_,_,D.out,R.out,S.out,O2.out.now,by rw [wO.out];exact qE.out.now,gK⟩
 case measure => simp [intOf];omega):p:=h
theorem zBl {p:Prop} (h:p:=by
 try simp only [Act.put]
 refine wpAnyH_ready (rs:=[18]) (by kernel_rfl) (by simp) ?_;refine AllReadyH.cons rfl (fun K hK => ?_) AllReadyH.nil;go_simp;refine hK.out _ _ zAl (fun hHeld => ?_);clear hK K;refine wpAnyH_done (by kernel_rfl) ?_ _;clear hHeld O9 cT5 fT5;have hsy2:w1.ownsRow B0 105 2 (.slice (some ⟨gg,0,none⟩) (kk+1) cap) (kk+1) (jO ((l.take (kk+1)).map fun a => (a,tN 115 a))):=by
  rw [aiw.out,List.map_append];unfold jO at hown1 ⊢;rw [List.flatMap_append];have hstr:({ data:=#[115] } : ByteArray) ++ Utf8.encode (q:Int) = { data:=(tN 115 y).toArray }:=by
   rw [EI q (by omega),Hq.out,abz 115 y];exact qO [115] [UInt8.ofNat (97+y).toNat]
  rw [hstr] at hown1;exact hown1
 clear hown1 hgrow hat hlt2 hgr hs e2 JY Hq hq SY bP aix;replace D:=hiQ (D.out.below hb3 (show w.heap.size < B0 by omega));replace R:=hiQ (R.out.below hb3 (show w.heap.size+1 < B0 by omega));replace S:=hiQ (S.out.below hb3 (show gS < B0 by omega));replace X:=hiQ (X.out.below hb3 (show gX < B0 by omega));replace T:=hiQ (T.out.below hb3 (show gT < B0 by omega));replace O:=hiQ (O.out.iJ hb3 (show gX≤B0 by omega));replace TO:=hiQ (TO.out.iJ hb3 (show gX≤B0 by omega));replace iO1:=hiQ (iO1.out.iJ hb3 (show B0≤B0 by omega));replace hw:=hw.trans (hb3.mono (show w.heap.size≤B0 by omega));have VB:=hiQ (Kept.own hsy2);clear hsy2;generalize mZ:w1.setCell _ _=E5;obtain ⟨D,R,S,X,O,TO,iO1,VB⟩:=f8 D R S X O TO iO1 VB (eF mZ);replace T:=Ea T mZ;replace hw:=tf hw mZ;clear mZ;go_wp2_with fail;go_roundw
 case rel => exact ⟨kk+1,by omega,by go_num,_,_,D.out,R.out,S.out,X.out,T.out,VB.out.now,iO1.out.now,O.out,TO.out,iO1.out.le,hw⟩
 case measure => simp [intOf];omega):p:=h
theorem zGs {p:Prop} (h:p:=by
 replace hw:=tf hw jD;clear jD;obtain ⟨gX,rfl⟩ : ∃ g,g=g12:=⟨_,rfl⟩
 obtain ⟨gT,rfl⟩ : ∃ g,g=g23:=⟨_,rfl⟩
 obtain ⟨nJ,hWS⟩ : ∃ x,x=wR:=⟨_,rfl⟩
 exact zAu):p:=h
theorem zHe {p:Prop} (h:p:=by
 obtain ⟨gX,rfl⟩ : ∃ g,g=g12:=⟨_,rfl⟩
 obtain ⟨gT,rfl⟩ : ∃ g,g=g23:=⟨_,rfl⟩
 obtain ⟨nJ,hWS⟩ : ∃ x,x=E5:=⟨_,rfl⟩
 exact zAu):p:=h
theorem aiq (xs:List fJ) (vn:Value) (w:World) (h5:0 < xs.length∧xs.length≤5) (hr:jR w w.heap.size vn xs) :
  Calls Tryz.prog 26 #[.agg #[vn]] w (abB xs w):=by
 obtain ⟨A,c,rfl,hcap⟩:=hr.form;have t1:decide ((xs.length:Int) < 1)=false:=decide_eq_false (by omega);have t2:decide (5 < (xs.length:Int))=false:=decide_eq_false (by omega);have t0:(1:Int)≤xs.length∧(xs.length:Int)≤5:=by omega
 obtain ⟨b,o,rfl,hb,hel⟩:=hr.elem h5.1;have HR:=hiQ hr;have HE:=hiQ hel;clear hr hel;go_enter Tryz.func26,Tryz.ntmps26
 go_upto_region 1 with fail;refine jg (fun wd2 hb1 D R => ?_);have hw3:=hb1;clear hb1;have dW:=D.out.e0;go_upto_region 5 with fail;clear dW;refine aO (fun fG hb4 S => ?_);have nI:=D.out.here;have mO:=R.out.here;have kH:=hw3.size;obtain ⟨D,R⟩:=b2 D R hb4;replace hw3:=dT hw3 hb4;clear hb4;generalize wd2.heap.size=g6 at *;go_upto_region 6 with fail;have hgS:w.heap.size+1 < g6:=by omega
 obtain ⟨gS,adR⟩ : ∃ g,g=g6:=⟨_,rfl⟩
 rw [← adR] at hgS S;rw [← adR];clear adR;go_loopw [6] (fun i wr => ∃ k:Nat,k≤xs.length∧i = .int .i64 k∧akj w wr gS (.slice (some ⟨b,o,none⟩) xs.length c) xs k)
  (fun i _ => xs.length - (intOf i).toNat)
 case atStart => exact ⟨0,by omega,rfl,_,[],D.out,R.out,S.out,World.ownsRow_nil _ _ _ _,.nil,hw3⟩
 case round =>
  obtain ⟨k,hk,rfl,v,cs,D,R,S,hown,hto,hw⟩:=hrel;obtain ⟨A0,c0,rfl⟩:=jF hown;by_cases hlt:k < xs.length
  ·
   skip
   replace D:=hiQ D;replace R:=hiQ R;replace S:=hiQ S;have O:=hiQ (Kept.own hown);have TO:=hiQ (Kept.typs hto);clear hto hown;obtain ⟨vp,hcs,hn⟩:=HE.out k hlt;obtain ⟨P0,cp,rfl,hcp⟩:=hn.parts.form;obtain ⟨m0,m1,m2,m3,m4⟩:=hcs;have n0:=(hw.cell (p:=⟨b,_,none⟩) hb).trans m0;have n1:=(hw.cell (p:=⟨b,_,none⟩) hb).trans m1;have n2:=(hw.cell (p:=⟨b,_,none⟩) hb).trans m2;have n3:=(hw.cell (p:=⟨b,_,none⟩) hb).trans m3;have n4:=(hw.cell (p:=⟨b,_,none⟩) hb).trans m4;have hlt1:(k:Int) < xs.length:=by omega
   have hki:=fun W h => qp xs (.slice (some ⟨b,o,none⟩) xs.length c) k W hlt h;have htk:=adS xs k hlt;have hparts:=fun rc W h => abC xs (.slice (some ⟨b,o,none⟩) xs.length c) k rc W h5 hlt h;have hkr:=vX xs[k];have hint:=hn.ints;clear m0 m1 m2 m3 m4 hn;generalize xs[k]=x at *;have HPA:=hiQ hparts;clear hparts;have hkk:ai5 x=1∨ai5 x=2∨ai5 x=3∨ai5 x=4∨ai5 x=5∨ai5 x=6∨ai5 x=7∨ai5 x=8∨ai5 x=9:=by omega
   rcases hkk with hkq | hkq | hkq | hkq | hkq | hkq | hkq | hkq | hkq
   ·
    skip
    rw [hkq] at hki;have HI:=hiQ hki;have mg:iL xs k x = { iM with kind:=1 }:=by unfold iL;simp [hkq]
    rw [mg] at htk;have wO:=hiQ htk;have AQ:Hid (qJ { iM with kind:=1 }):=by have:=alm xs k x h5.2 hlt;rw [mg] at this;exact this
    clear hki htk mg hkr hkq;have dW:=D.out.e0;go_upto_region 9 with fail;clear dW;refine aO (fun dw aY X => ?_);have alh:=D.out.here;have akV:=R.out.here;have qA:=S.out.here;have alj:=O.out.le;have sO:=TO.out.le;have sW:=hw.size;obtain ⟨D,R,S,O,TO⟩:=b5 D R S O TO aY;replace hw:=dT hw aY;clear aY;generalize wr.heap.size=g12 at *;clear n0 n1 n2 n3 n4;have dW:=D.out.e0;go_wp2_with fail;clear dW;((with_reducible refine (HI.out _ (HR.out.on hw)).mono ?_);rintro e fZ ⟨rfl,iO⟩);obtain ⟨D,R,S,X,O,TO⟩:=b6 D R S X O TO iO;replace hw:=dT hw iO;clear iO;go_upto_region 10 with fail;refine aO (fun lq gq T => ?_);have sJ:=D.out.here;have uP:=R.out.here;have sN:=S.out.here;have uQ:=X.out.here;have sK:=O.out.le;have uO:=TO.out.le;have uh:=hw.size;obtain ⟨D,R,S,X,O,TO⟩:=b6 D R S X O TO gq;replace hw:=dT hw gq;clear gq;generalize fZ.heap.size=g23 at *;have aC:=T.out.e0;go_wp2_with fail;clear aC;((with_reducible refine (uo _ _).mono ?_);rintro e vV ⟨rfl,rfl⟩);rw [show ql 1=false from rfl];obtain ⟨gX,rfl⟩ : ∃ g,g=g12:=⟨_,rfl⟩
    obtain ⟨gT,rfl⟩ : ∃ g,g=g23:=⟨_,rfl⟩
    obtain ⟨nJ,hWS⟩ : ∃ x,x=lq:=⟨_,rfl⟩
    exact zAu
   ·
    skip
    rw [hkq] at hki;have HI:=hiQ hki;have mg:iL xs k x = { iM with kind:=2,low:=vY x,high:=tX x }:=by unfold iL;simp [hkq]
    rw [mg] at htk;have wO:=hiQ htk;have AQ:Hid (qJ { iM with kind:=2,low:=vY x,high:=tX x }):=by have:=alm xs k x h5.2 hlt;rw [mg] at this;exact this
    clear hki htk mg hkr hkq;have hlo:=fun W => Sl x (.slice P0 x.parts.length cp) W hint.2.1;have hhi:=fun W => Vw x (.slice P0 x.parts.length cp) W hint.2.1 hint.2.2.1;have TP:=hiQ hlo;have HHI:=hiQ hhi;clear hlo hhi;have dW:=D.out.e0;go_upto_region 9 with fail;clear dW;refine aO (fun dw aY X => ?_);have alh:=D.out.here;have akV:=R.out.here;have qA:=S.out.here;have alj:=O.out.le;have sO:=TO.out.le;have sW:=hw.size;obtain ⟨D,R,S,O,TO⟩:=b5 D R S O TO aY;replace hw:=dT hw aY;clear aY;generalize wr.heap.size=g12 at *;clear n0 n1 n2 n3 n4;have dW:=D.out.e0;go_wp2_with fail;clear dW;((with_reducible refine (HI.out _ (HR.out.on hw)).mono ?_);rintro e fZ ⟨rfl,iO⟩);obtain ⟨D,R,S,X,O,TO⟩:=b6 D R S X O TO iO;replace hw:=dT hw iO;clear iO;go_upto_region 10 with fail;refine aO (fun lq gq T => ?_);have sJ:=D.out.here;have uP:=R.out.here;have sN:=S.out.here;have uQ:=X.out.here;have sK:=O.out.le;have uO:=TO.out.le;have uh:=hw.size;obtain ⟨D,R,S,X,O,TO⟩:=b6 D R S X O TO gq;replace hw:=dT hw gq;clear gq;generalize fZ.heap.size=g23 at *;have aC:=T.out.e0;go_wp2_with fail;clear aC;((with_reducible refine (uo _ _).mono ?_);rintro e vV ⟨rfl,rfl⟩);rw [show ql 2=false from rfl];have aC:=T.out.e0;go_upto_region 14 with fail;have bQ:=T.out.e2;have acX:=T.out.e3;have adT:=T.out.free 2;have adU:=T.out.free 3;have aK:=X.out.e0;have bJ:=X.out.e1;have bY:=X.out.e2;have bZ:=X.out.e3;have dL:=X.out.e4;go_region_held3 (fun w' => w'.cell? ⟨g12,0,none⟩=some (.int .u8 x.kind)∧w'.cell? ⟨g12,1,none⟩=some (.int .u8 x.a)∧w'.cell? ⟨g12,2,none⟩=some (.int .u8 x.b)∧w'.cell? ⟨g12,3,none⟩=some (.int .u8 x.c)∧w'.cell? ⟨g12,4,none⟩=some (.slice P0 x.parts.length cp)) (first | (go_keep;done) | exact ⟨aK,bJ,bY,bZ,dL⟩ | (((repeat' apply And.intro) <;> ((repeat (with_reducible (first | refine Eq.trans (Ec _ _) ?_ | refine Eq.trans (cell_far _ _ _ _ _ (by dsimp only;omega)) ?_)));assumption));done))
     (first
      | (go_at_call 56;(first | (with_reducible refine (TP.out _).mono ?_));rintro e wn ⟨rfl,hbn⟩;have D:Hid (Has wn (w.heap.size) 49 #[.slice (some ⟨b,o,none⟩) xs.length c]):=hiQ (by first | exact D.out.below hbn D.out.here | exact D.out.drew.below hbn D.out.here);have R:Hid (Has wn (w.heap.size+1) 25 #[.slice none 0 0]):=hiQ (by first | exact R.out.below hbn R.out.here | exact R.out.drew.below hbn R.out.here);have S:Hid (Has wn (gS) 25 #[.slice A0 k c0]):=hiQ (by first | exact S.out.below hbn S.out.here | exact S.out.drew.below hbn S.out.here);have X:Hid (Has wn (g12) 99 #[.int .u8 x.kind,.int .u8 x.a,.int .u8 x.b,.int .u8 x.c,.slice P0 x.parts.length cp]):=hiQ (by first | exact X.out.below hbn X.out.here | exact X.out.drew.below hbn X.out.here);have T:Hid (Has wn (g23) 71 #[.int .i64 2,.string ⟨#[]⟩,.int .i64 0,.int .i64 0,.int .i64 0,.slice none 0 0,.slice none 0 0,.int .i64 0,.int .i64 0,.bool false]):=hiQ (by first | exact T.out.below hbn T.out.here | exact T.out.drew.below hbn T.out.here);have O:=hiQ (Kept.TQ O.out hbn);have TO:=hiQ (Kept.TQ TO.out hbn);have hw:Below w.heap.size w wn:=(by first | exact hw.trans (hbn.mono hw.size) | exact (hw.drew).trans (hbn.mono hw.size));have aC:wn.cell? ⟨g23,0,none⟩=some (.int .i64 2):=T.out.cell 0;have bQ:wn.cell? ⟨g23,2,none⟩=some (.int .i64 0):=T.out.cell 2;have acX:wn.cell? ⟨g23,3,none⟩=some (.int .i64 0):=T.out.cell 3;have adT:wn.frozen? ⟨g23,2,none⟩=false:=T.out.free 2;have adU:wn.frozen? ⟨g23,3,none⟩=false:=T.out.free 3;have aK:wn.cell? ⟨g12,0,none⟩=some (.int .u8 x.kind):=X.out.cell 0;have bJ:wn.cell? ⟨g12,1,none⟩=some (.int .u8 x.a):=X.out.cell 1;have bY:wn.cell? ⟨g12,2,none⟩=some (.int .u8 x.b):=X.out.cell 2;have bZ:wn.cell? ⟨g12,3,none⟩=some (.int .u8 x.c):=X.out.cell 3;have dL:wn.cell? ⟨g12,4,none⟩=some (.slice P0 x.parts.length cp):=X.out.cell 4)
      | (go_at_call 57;(first | (with_reducible refine (HHI.out _).mono ?_));rintro e wn ⟨rfl,hbn⟩;have D:Hid (Has wn (w.heap.size) 49 #[.slice (some ⟨b,o,none⟩) xs.length c]):=hiQ (by first | exact D.out.below hbn D.out.here | exact D.out.drew.below hbn D.out.here);have R:Hid (Has wn (w.heap.size+1) 25 #[.slice none 0 0]):=hiQ (by first | exact R.out.below hbn R.out.here | exact R.out.drew.below hbn R.out.here);have S:Hid (Has wn (gS) 25 #[.slice A0 k c0]):=hiQ (by first | exact S.out.below hbn S.out.here | exact S.out.drew.below hbn S.out.here);have X:Hid (Has wn (g12) 99 #[.int .u8 x.kind,.int .u8 x.a,.int .u8 x.b,.int .u8 x.c,.slice P0 x.parts.length cp]):=hiQ (by first | exact X.out.below hbn X.out.here | exact X.out.drew.below hbn X.out.here);have T:Hid (Has wn (g23) 71 #[.int .i64 2,.string ⟨#[]⟩,.int .i64 0,.int .i64 0,.int .i64 0,.slice none 0 0,.slice none 0 0,.int .i64 0,.int .i64 0,.bool false]):=hiQ (by first | exact T.out.below hbn T.out.here | exact T.out.drew.below hbn T.out.here);have O:=hiQ (Kept.TQ O.out hbn);have TO:=hiQ (Kept.TQ TO.out hbn);have hw:Below w.heap.size w wn:=(by first | exact hw.trans (hbn.mono hw.size) | exact (hw.drew).trans (hbn.mono hw.size));have aC:wn.cell? ⟨g23,0,none⟩=some (.int .i64 2):=T.out.cell 0;have bQ:wn.cell? ⟨g23,2,none⟩=some (.int .i64 0):=T.out.cell 2;have acX:wn.cell? ⟨g23,3,none⟩=some (.int .i64 0):=T.out.cell 3;have adT:wn.frozen? ⟨g23,2,none⟩=false:=T.out.free 2;have adU:wn.frozen? ⟨g23,3,none⟩=false:=T.out.free 3;have aK:wn.cell? ⟨g12,0,none⟩=some (.int .u8 x.kind):=X.out.cell 0;have bJ:wn.cell? ⟨g12,1,none⟩=some (.int .u8 x.a):=X.out.cell 1;have bY:wn.cell? ⟨g12,2,none⟩=some (.int .u8 x.b):=X.out.cell 2;have bZ:wn.cell? ⟨g12,3,none⟩=some (.int .u8 x.c):=X.out.cell 3;have dL:wn.cell? ⟨g12,4,none⟩=some (.slice P0 x.parts.length cp):=X.out.cell 4))
    all_goals
     clear aC bQ acX adT adU aK bJ bY bZ dL;generalize jD:wn.setCell _ _=wR;obtain ⟨D,R,S,X,O,TO⟩:=f6 D R S X O TO (eF jD);replace T:=Yx T jD;replace hw:=tf hw jD;clear jD;generalize lI:wR.setCell _ _=vT;obtain ⟨D,R,S,X,O,TO⟩:=f6 D R S X O TO (eF lI);replace T:=Vx T lI;replace hw:=tf hw lI;clear lI;obtain ⟨gX,rfl⟩ : ∃ g,g=g12:=⟨_,rfl⟩
     obtain ⟨gT,rfl⟩ : ∃ g,g=g23:=⟨_,rfl⟩
     obtain ⟨nJ,hWS⟩ : ∃ x,x=vT:=⟨_,rfl⟩
     exact zAu
   ·
    skip
    rw [hkq] at hki;have HI:=hiQ hki;have mg:iL xs k x = { iM with kind:=3,max:=((x.a % 4:Nat):Int) }:=by unfold iL;simp [hkq]
    rw [mg] at htk;have wO:=hiQ htk;have AQ:Hid (qJ { iM with kind:=3,max:=((x.a % 4:Nat):Int) }):=by have:=alm xs k x h5.2 hlt;rw [mg] at this;exact this
    clear hki htk mg hkr hkq;have ha4:(x.a:Int) % 4=((x.a % 4:Nat):Int):=by push_cast;rfl
    have hab:(x.a:Int) < 256:=by omega
    generalize x.a % 4=a4 at *;have dW:=D.out.e0;go_upto_region 9 with fail;clear dW;refine aO (fun dw aY X => ?_);have alh:=D.out.here;have akV:=R.out.here;have qA:=S.out.here;have alj:=O.out.le;have sO:=TO.out.le;have sW:=hw.size;obtain ⟨D,R,S,O,TO⟩:=b5 D R S O TO aY;replace hw:=dT hw aY;clear aY;generalize wr.heap.size=g12 at *;clear n0 n1 n2 n3 n4;have dW:=D.out.e0;go_wp2_with fail;clear dW;((with_reducible refine (HI.out _ (HR.out.on hw)).mono ?_);rintro e fZ ⟨rfl,iO⟩);obtain ⟨D,R,S,X,O,TO⟩:=b6 D R S X O TO iO;replace hw:=dT hw iO;clear iO;go_upto_region 10 with fail;refine aO (fun lq gq T => ?_);have sJ:=D.out.here;have uP:=R.out.here;have sN:=S.out.here;have uQ:=X.out.here;have sK:=O.out.le;have uO:=TO.out.le;have uh:=hw.size;obtain ⟨D,R,S,X,O,TO⟩:=b6 D R S X O TO gq;replace hw:=dT hw gq;clear gq;generalize fZ.heap.size=g23 at *;have aC:=T.out.e0;go_wp2_with fail;clear aC;((with_reducible refine (uo _ _).mono ?_);rintro e vV ⟨rfl,rfl⟩);rw [show ql 3=false from rfl];have aC:=T.out.e0;have aW:=T.out.e4;have bJ:=X.out.e1;have Jj:=T.out.free 4;go_upto_region 39 with fail;clear aC aW bJ Jj;generalize jD:lq.setCell _ _=wR;obtain ⟨D,R,S,X,O,TO⟩:=f6 D R S X O TO (eF jD);replace T:=zB T jD;exact zGs
   ·
    skip
    have tb:((x.b:Int) % 2 == 1)=decide (x.b % 2=1):=by rw [Bool.eq_iff_iff];simp;omega
    have hxb:(x.b:Int) < 256:=by omega
    rw [hkq] at hki;have HI:=hiQ hki;have mg:iL xs k x = { iM with kind:=4,name:=lN k,opn:=decide (x.b % 2=1),syms:=(qK x).map fun a => (a,tN 115 a) }:=by unfold iL;simp [hkq,ql]
    rw [mg] at htk;have wO:=hiQ htk;have AQ:Hid (qJ { iM with kind:=4,name:=lN k,opn:=decide (x.b % 2=1),syms:=(qK x).map fun a => (a,tN 115 a) }):=by have:=alm xs k x h5.2 hlt;rw [mg] at this;exact this
    clear hki htk mg hkr hkq;have Ib:=fun W => Yy x (.slice P0 x.parts.length cp) W;unfold Sm at Ib;have hil:=zC x;have afX:=Fv x;generalize qK x=l at *;have adV:=hiQ Ib;have Vy:=hiQ afX;clear Ib afX;have dW:=D.out.e0;go_upto_region 9 with fail;clear dW;refine aO (fun dw aY X => ?_);have alh:=D.out.here;have akV:=R.out.here;have qA:=S.out.here;have alj:=O.out.le;have sO:=TO.out.le;have sW:=hw.size;obtain ⟨D,R,S,O,TO⟩:=b5 D R S O TO aY;replace hw:=dT hw aY;clear aY;generalize wr.heap.size=g12 at *;clear n0 n1 n2 n3 n4;have dW:=D.out.e0;go_wp2_with fail;clear dW;((with_reducible refine (HI.out _ (HR.out.on hw)).mono ?_);rintro e fZ ⟨rfl,iO⟩);obtain ⟨D,R,S,X,O,TO⟩:=b6 D R S X O TO iO;replace hw:=dT hw iO;clear iO;go_upto_region 10 with fail;refine aO (fun lq gq T => ?_);have sJ:=D.out.here;have uP:=R.out.here;have sN:=S.out.here;have uQ:=X.out.here;have sK:=O.out.le;have uO:=TO.out.le;have uh:=hw.size;obtain ⟨D,R,S,X,O,TO⟩:=b6 D R S X O TO gq;replace hw:=dT hw gq;clear gq;generalize fZ.heap.size=g23 at *;have aC:=T.out.e0;go_wp2_with fail;clear aC;((with_reducible refine (uo _ _).mono ?_);rintro e vV ⟨rfl,rfl⟩);rw [show ql 4=true from rfl];obtain ⟨q,hq,Hq⟩ : ∃ q:Nat,65+(k:Int)=(q:Int)∧Hid (q=65+k):=⟨65+k,by omega,rfl⟩
    have JY:(q:Int) < 128:=by have:=Hq.out;omega
    have aC:=T.out.e0;have bH:=T.out.e1;have O8:=T.out.free 1;go_upto_region 12 with fail;have hstr:Utf8.encode (q:Int) = { data:=(lN k).toArray }:=by rw [EI q (by omega),Hq.out];rfl
    rw [hstr];clear hstr JY Hq hq aC bH O8;generalize jD:lq.setCell _ _=wR;obtain ⟨D,R,S,X,O,TO⟩:=f6 D R S X O TO (eF jD);replace T:=yT T jD;replace hw:=tf hw jD;clear jD;have aC:=T.out.e0;have aJ:=T.out.e9;have bY:=X.out.e2;have Vz:=T.out.free 9;go_upto_region 19 with fail;clear aC aJ bY Vz;generalize lI:wR.setCell _ _=vT;obtain ⟨D,R,S,X,O,TO⟩:=f6 D R S X O TO (eF lI);replace T:=Cc T lI;replace hw:=tf hw lI;clear lI;have aK:=X.out.e0;have bJ:=X.out.e1;have bY:=X.out.e2;have bZ:=X.out.e3;have dL:=X.out.e4;go_wp2_with fail;have OB:=hiQ O.out.now;have hTl:=T.out.here;clear aK bJ bY bZ dL;((with_reducible refine (adV.out _).mono ?_);rintro e zl ⟨vi,rfl,hown,Fz⟩);obtain ⟨D,R,S,X,T,O,TO⟩:=b7 D R S X T O TO Fz;replace hw:=dT hw Fz;clear Fz;replace hown:=own_base hown (show g23+1≤_ from hTl);obtain ⟨gi,ci,rfl,ait,VA,ame,hgc⟩:=Du hown (by omega);clear hgc;go_upto_region 21 with fail;obtain ⟨B0,hB0⟩ : ∃ B,B=zl.heap.size:=⟨_,rfl⟩
    rw [← hB0] at VA;have hTB:g23 < B0:=by rw [hB0];exact T.out.here
    have hXB:g12 < g23:=by omega
    have hSB:gS < g12:=by omega
    have hOB:∀ k1,(Value.slice A0 k c0).ownBlock=some k1→k1 < B0:=fun k1 h => by rw [hB0];exact (O.out.now.lt k1 h).2
    have HB0:=hiQ hB0;have hDD:=D.out;have hRR:=R.out;have hSS:=S.out;have hXX:=X.out;have adW:=T.out;have hWW:=hw;obtain ⟨gT,hgT⟩ : ∃ g,g=g23:=⟨_,rfl⟩
    obtain ⟨gX,zD⟩ : ∃ g,g=g12:=⟨_,rfl⟩
    rw [← hgT] at adW hTB hXB hown ait;rw [← zD] at hXX hXB hSB;have TR:=O.out;have uq:=TO.out;rw [← zD] at TR uq;rw [← hgT,← zD];clear hB0 hgT zD;go_loopw [10] (fun j wi => ∃ kk:Nat,kk≤l.length∧j = .int .i64 kk∧∃ A5 c5,Has wi w.heap.size 49 #[.slice (some ⟨b,o,none⟩) xs.length c]∧Has wi (w.heap.size+1) 25 #[.slice none 0 0]∧Has wi gS 25 #[.slice A0 k c0]∧Has wi gX 99 #[.int .u8 x.kind,.int .u8 x.a,.int .u8 x.b,.int .u8 x.c,.slice P0 x.parts.length cp] ∧
      Has wi gT 71 #[.int .i64 4,.string ⟨(lN k).toArray⟩,.int .i64 0,.int .i64 0,.int .i64 0,.slice A5 kk c5,.slice none 0 0,.int .i64 0,.int .i64 0,.bool (decide (x.b % 2=1))]∧wi.ownsRow B0 105 2 (.slice A5 kk c5) kk (jO ((l.take kk).map fun a => (a,tN 115 a)))∧wi.ownsRow (gT+1) 3 1 (.slice (some ⟨gi,0,none⟩) l.length ci) l.length (l.map (Value.int .i64)) ∧
      Kept (fun w => w.ownsRow (gS+1) 71 10 (.slice A0 k c0) k cs) wi (gS+1) gX∧Kept (fun w => jP w (gS+1) (Value.slice A0 k c0).ownBlock ((jw xs).take k) cs) wi (gS+1) gX∧B0≤wi.heap.size∧Below w.heap.size w wi)
     (fun j _ => l.length - (intOf j).toNat)
    case atStart => exact ⟨0,by omega,rfl,none,0,hDD,hRR,hSS,hXX,adW,World.ownsRow_nil _ _ _ _,hown,TR,uq,Nat.le_of_eq HB0.out,hWW⟩
    case round =>
     clear hDD hRR hSS hXX adW hown TR uq hWW hw HB0 D R S X T O TO;obtain ⟨kk,hkk,rfl,A5,c5,D,R,S,X,T,hsy,hown,TR,uq,hBw,hw⟩:=hrel;by_cases hjl:kk < l.length
     ·
      skip
      replace D:=hiQ D;replace R:=hiQ R;replace S:=hiQ S;replace X:=hiQ X;replace T:=hiQ T;have O:=hiQ (TR);have TO:=hiQ (uq);have SY:=hiQ (Kept.own hsy);have iO1:=hiQ (Kept.amd hown VA hBw);clear TR uq;have hy:=Vy.out _ (List.getElem_mem hjl);have htk:l.take (kk+1)=l.take kk ++ [l[kk]]:=List.take_succ_eq_append_getElem hjl;have hci:=(aby hown) kk (.int .i64 l[kk]) (by rw [List.getElem?_map,List.getElem?_eq_getElem hjl];rfl);generalize l[kk]=y at *;have aiw:=hiQ htk;clear htk;obtain ⟨q,hq,Hq⟩ : ∃ q:Nat,IntKind.i64.wrap (97+y)=(q:Int)∧Hid (q=(97+y).toNat):=⟨(97+y).toNat,by rw [IntWalk.i64_in _ (by omega)];omega,rfl⟩
      have JY:(q:Int) < 128:=by have:=Hq.out;omega
      have hs:(Utf8.encode (q:Int)).size=1:=by rw [EI q (by omega)];rfl
      have e2:IntKind.i32.wrap (q:Int)=q:=by rw [IntKind.wrap_i32];omega
      have hj0:(0:Int)≤(kk:Int):=by omega
      have hj1:(kk:Int) < l.length:=by omega
      have hjm:(kk:Int)+1≤9223372036854775807:=by omega
      go_upto_region 23 with fail;have bP:=T.out.e5;have aix:=T.out.free 5;obtain ⟨aiy,aiz,hsz0,hsz1,hsz2⟩:=info_parts adQ;have cA1:∀ o,(wr.alloc o).cell? ⟨gT,5,none⟩=some (.slice A5 kk c5):=fun o => (((Below.refl wr.heap.size wr).alloc (Nat.le_refl _) o).cell (p:=⟨gT,5,none⟩) T.out.here).trans bP;have cA2:∀ o,(wr.alloc o).cell? ⟨gi,kk,none⟩=some (.int .i64 y):=fun o => (((Below.refl wr.heap.size wr).alloc (Nat.le_refl _) o).cell (p:=⟨gi,kk,none⟩) (World.block_lt_of_cell? _ _ hci)).trans hci;refine wp_region_held_drew (S:=(fun w' => w'.cell? ⟨gi,kk,none⟩=some (.int .i64 y))) (by kernel_rfl) hci (fun hHeld => ?_);refine wpAnyH_take (i:=0) (v := ?v0a) rfl (by kernel_rfl) (by kernel_rfl) (by kernel_rfl) (fun _ _ _ h => h) (Or.inl ⟨by rfl,?h0a⟩) (by assumption) ?r0a
      case h0a => (intro w hSw;(try dsimp only at hSw);go_simp;(first | done | with_reducible rfl))
      try simp only [Act.put]
      refine wpAnyH_take (i:=2) (v := ?v2a) rfl (by kernel_rfl) (by kernel_rfl) (by kernel_rfl) (fun _ _ _ h => h) (Or.inl ⟨by rfl,?Ob⟩) (by assumption) ?r2a
      case Ob => (intro w hSw;(try dsimp only at hSw);go_simp;(first | done | with_reducible rfl))
      try simp only [Act.put]
      refine wpAnyH_take (i:=3) (v := ?v3a) rfl (by kernel_rfl) (by kernel_rfl) (by kernel_rfl) (fun _ _ _ h => h) (Or.inl ⟨by rfl,?Oc⟩) (by assumption) ?r3a
      case Oc => (intro w hSw;(try dsimp only at hSw);go_simp;(first | done | with_reducible rfl))
      try simp only [Act.put]
      refine wpAnyH_take (i:=4) (v := ?v4a) rfl (by kernel_rfl) (by kernel_rfl) (by kernel_rfl) (fun _ _ _ h => h) (Or.inl ⟨by rfl,?h4a⟩) (by assumption) ?r4a
      case h4a => (intro w hSw;(try dsimp only at hSw);go_simp;(first | done | with_reducible rfl))
      try simp only [Act.put]
      refine wpAnyH_take (i:=5) (v := ?v5a) rfl (by kernel_rfl) (by kernel_rfl) (by kernel_rfl) (fun _ _ _ h => h) (Or.inl ⟨by rfl,?h5a⟩) (by assumption) ?r5a
      case h5a => (intro w hSw;(try dsimp only at hSw);go_simp;(first | done | with_reducible rfl))
      try simp only [Act.put]
      refine wpAnyH_take (i:=6) (v := ?v6a) rfl (by kernel_rfl) (by kernel_rfl) (by kernel_rfl) (fun _ _ _ h => h) (Or.inl ⟨by rfl,?h6a⟩) (by assumption) ?r6a
      case h6a => (intro w hSw;(try dsimp only at hSw);go_simp;(first | done | with_reducible rfl))
      try simp only [Act.put]
      refine wpAnyH_take (i:=7) (v := ?v7a) rfl (by kernel_rfl) (by kernel_rfl) (by kernel_rfl) (fun _ _ _ h => h) (Or.inl ⟨by rfl,?h7a⟩) (by assumption) ?r7a
      case h7a => (intro w hSw;(try dsimp only at hSw);go_simp;(first | done | with_reducible rfl))
      try simp only [Act.put]
      refine wpAnyH_take (i:=8) (v := ?v8a) rfl (by kernel_rfl) (by kernel_rfl) (by kernel_rfl) (fun _ _ _ h => h) (Or.inl ⟨by rfl,?h8a⟩) (by assumption) ?r8a
      case h8a => (intro w hSw;(try dsimp only at hSw);go_simp;(first | done | with_reducible rfl))
      try simp only [Act.put]
      refine wpAnyH_take (i:=9) (v := ?v9a) rfl (by kernel_rfl) (by kernel_rfl) (by kernel_rfl) (fun _ _ _ h => h) (Or.inl ⟨by rfl,?h9a⟩) (by assumption) ?r9a
      case h9a => (intro w hSw;(try dsimp only at hSw);go_simp;(first | done | with_reducible rfl))
      try simp only [Act.put]
      refine wpAnyH_take (i:=10) (v := ?aps) rfl (by kernel_rfl) (by kernel_rfl) (by kernel_rfl) (fun _ _ _ h => h) (Or.inl ⟨by rfl,?amf⟩) (by assumption) ?apt
      case amf => (intro w hSw;(try dsimp only at hSw);go_simp;(first | done | with_reducible rfl))
      try simp only [Act.put]
      refine wpAnyH_take (i:=11) (v := ?apu) rfl (by kernel_rfl) (by kernel_rfl) (by kernel_rfl) (fun _ _ _ h => h) (Or.inl ⟨by rfl,?amg⟩) (by assumption) ?apv
      case amg => (intro w hSw;(try dsimp only at hSw);go_simp;(first | done | with_reducible rfl))
      try simp only [Act.put]
      refine wpAnyH_take (i:=12) (v := ?apw) rfl (by kernel_rfl) (by kernel_rfl) (by kernel_rfl) (fun _ _ _ h => h) (Or.inl ⟨by rfl,?amh⟩) (by assumption) ?apx
      case amh => (intro w hSw;(try dsimp only at hSw);go_simp;(first | done | with_reducible rfl))
      try simp only [Act.put]
      refine wpAnyH_take (i:=13) (v := ?apy) rfl (by kernel_rfl) (by kernel_rfl) (by kernel_rfl) (fun _ _ _ h => h) (Or.inl ⟨by rfl,?ami⟩) (by assumption) ?apz
      case ami => (intro w hSw;(try dsimp only at hSw);go_simp;(first | done | with_reducible rfl))
      try simp only [Act.put]
      refine wpAnyH_take (i:=14) (v := ?apA) rfl (by kernel_rfl) (by kernel_rfl) (by kernel_rfl) (fun _ _ _ h => h) (Or.inl ⟨by rfl,?amj⟩) (by assumption) ?apB
      case amj => (intro w hSw;(try dsimp only at hSw);go_simp;(first | done | with_reducible rfl))
      try simp only [Act.put]
      refine wpAnyH_ready (rs:=[1,15]) (by kernel_rfl) (by simp) ?_;refine AllReadyH.cons rfl (fun K hK => ?_) (AllReadyH.cons rfl (fun K hK => ?_) AllReadyH.nil)
      ·
       go_simp;refine hK.out _ _ hci (fun hHeld => ?_);clear hK K;try simp only [Act.put,List.setIfInBounds_toArray]
       refine wpAnyH_ready (rs:=[15]) (by kernel_rfl) (by simp) ?_;refine AllReadyH.cons rfl (fun K hK => ?_) AllReadyH.nil;go_simp;refine hK.out _ _ (cA2 _) (fun hHeld => ?_);clear hK K;try simp only [Act.put,List.setIfInBounds_toArray]
       refine wpAnyH_ready (rs:=[16]) (by kernel_rfl) (by simp) ?_;refine AllReadyH.cons rfl (fun K hK => ?_) AllReadyH.nil;refine step_append_lies _ (by rfl) _ _ _ (by rfl) B0 105 aiy _ 2 24 Tryz.underlying68 aiz hsz0 hsz1 hsz2 rfl (by omega) (.slice A5 kk c5) kk _ (by rfl) ((SY.out.now.alloc _).drew) ⟨wr.heap.size,0,none⟩ 1 1 [.int .i64 y,.string (({ data:=#[115] } : ByteArray) ++ Utf8.encode (q:Int))] (by rfl) (by rfl) (World.news_of_block (cs:=#[.int .i64 y,.string (({ data:=#[115] } : ByteArray) ++ Utf8.encode (q:Int))]) (t:=105) (fr:=(0,0)) (heap_alloc_new wr _)) (by simp [Value.oneCell']) (by omega) (by simp only [maxLen];omega) (by omega) (by simp;omega) (wr.heap.size+1) (by simp) ?_;intro gg cap w1 hown1 hgrow hat hlt2;have hgr:(wr.alloc (.cells #[.int .i64 y,.string (({ data:=#[115] } : ByteArray) ++ Utf8.encode (q:Int))] 105)).grownBy w1 (Value.slice A5 kk c5).ownBlock:=⟨hgrow.os,hgrow.tape,hgrow.output,hgrow.size,hgrow.block⟩
       have hb3:=grown_below SY.out.now hBw hgr;have cT5:w1.cell? ⟨gT,5,none⟩=some (.slice A5 kk c5):=(T.out.below hb3 hTB).cell 5;have fT5:=(T.out.below hb3 hTB).free 5;have O9:=(hb3.cell (p:=⟨gi,kk,none⟩) VA).trans hci;clear cA1 cA2;refine hK.out _ _ O9 (fun hHeld => ?_);clear hK K;try simp only [Act.put,List.setIfInBounds_toArray]
       refine wpAnyH_take (i:=17) (v := ?apC) rfl (by kernel_rfl) (by kernel_rfl) (by kernel_rfl) (fun _ _ _ h => h) (Or.inl ⟨by rfl,?amk⟩) (by assumption) ?apD
       case amk => (intro w hSw;(try dsimp only at hSw);go_simp;(first | done | with_reducible rfl))
       exact zBl
      go_simp;refine hK.out _ _ (cA2 _) (fun hHeld => ?_);clear hK K;try simp only [Act.put,List.setIfInBounds_toArray]
      refine wpAnyH_ready (rs:=[1]) (by kernel_rfl) (by simp) ?_;refine AllReadyH.cons rfl (fun K hK => ?_) AllReadyH.nil;go_simp;refine hK.out _ _ (cA2 _) (fun hHeld => ?_);clear hK K;try simp only [Act.put,List.setIfInBounds_toArray]
      refine wpAnyH_ready (rs:=[16]) (by kernel_rfl) (by simp) ?_;refine AllReadyH.cons rfl (fun K hK => ?_) AllReadyH.nil;refine step_append_lies _ (by rfl) _ _ _ (by rfl) B0 105 aiy _ 2 24 Tryz.underlying68 aiz hsz0 hsz1 hsz2 rfl (by omega) (.slice A5 kk c5) kk _ (by rfl) ((SY.out.now.alloc _).drew) ⟨wr.heap.size,0,none⟩ 1 1 [.int .i64 y,.string (({ data:=#[115] } : ByteArray) ++ Utf8.encode (q:Int))] (by rfl) (by rfl) (World.news_of_block (cs:=#[.int .i64 y,.string (({ data:=#[115] } : ByteArray) ++ Utf8.encode (q:Int))]) (t:=105) (fr:=(0,0)) (heap_alloc_new wr _)) (by simp [Value.oneCell']) (by omega) (by simp only [maxLen];omega) (by omega) (by simp;omega) (wr.heap.size+1) (by simp) ?_;intro gg cap w1 hown1 hgrow hat hlt2;have hgr:(wr.alloc (.cells #[.int .i64 y,.string (({ data:=#[115] } : ByteArray) ++ Utf8.encode (q:Int))] 105)).grownBy w1 (Value.slice A5 kk c5).ownBlock:=⟨hgrow.os,hgrow.tape,hgrow.output,hgrow.size,hgrow.block⟩
      have hb3:=grown_below SY.out.now hBw hgr;have cT5:w1.cell? ⟨gT,5,none⟩=some (.slice A5 kk c5):=(T.out.below hb3 hTB).cell 5;have fT5:=(T.out.below hb3 hTB).free 5;have O9:=(hb3.cell (p:=⟨gi,kk,none⟩) VA).trans hci;clear cA1 cA2;refine hK.out _ _ O9 (fun hHeld => ?_);clear hK K;try simp only [Act.put,List.setIfInBounds_toArray]
      refine wpAnyH_take (i:=17) (v := ?apE) rfl (by kernel_rfl) (by kernel_rfl) (by kernel_rfl) (fun _ _ _ h => h) (Or.inl ⟨by rfl,?aml⟩) (by assumption) ?apF
      case aml => (intro w hSw;(try dsimp only at hSw);go_simp;(first | done | with_reducible rfl))
      exact zBl
     obtain rfl:kk=l.length:=by omega
     replace D:=hiQ D;replace R:=hiQ R;replace S:=hiQ S;replace X:=hiQ X;replace T:=hiQ T;have O:=hiQ (TR);have TO:=hiQ (uq);rw [List.take_of_length_le (Nat.le_refl _)] at hsy;have hss:=aip hsy hOB;have aiC:wr.ownsRow (gS+1) 105 2 (.slice A5 l.length c5) (l.map fun a => (a,tN 115 a)).length (jO (l.map fun a => (a,tN 115 a))):=by rw [List.length_map];exact own_base hsy (by omega)
     have KE:=hiQ aiC;clear TR uq hsy aiC hown ait VA ame hil;obtain ⟨gX,rfl⟩ : ∃ g,g=gX:=⟨_,rfl⟩
     obtain ⟨gT,rfl⟩ : ∃ g,g=gT:=⟨_,rfl⟩
     obtain ⟨nJ,hWS⟩ : ∃ x,x=wr:=⟨_,rfl⟩
     exact zAu
   ·
    skip
    rw [hkq] at hki;have HI:=hiQ hki;have mg:iL xs k x = { iM with kind:=5,name:=lN k,ah:=oH xs k true x.parts }:=by unfold iL;simp [hkq,ql]
    rw [mg] at htk;have wO:=hiQ htk;have AQ:Hid (qJ { iM with kind:=5,name:=lN k,ah:=oH xs k true x.parts }):=by have:=alm xs k x h5.2 hlt;rw [mg] at this;exact this
    clear hki htk mg hkr hkq;have dW:=D.out.e0;go_upto_region 9 with fail;clear dW;refine aO (fun dw aY X => ?_);have alh:=D.out.here;have akV:=R.out.here;have qA:=S.out.here;have alj:=O.out.le;have sO:=TO.out.le;have sW:=hw.size;obtain ⟨D,R,S,O,TO⟩:=b5 D R S O TO aY;replace hw:=dT hw aY;clear aY;generalize wr.heap.size=g12 at *;clear n0 n1 n2 n3 n4;have dW:=D.out.e0;go_wp2_with fail;clear dW;((with_reducible refine (HI.out _ (HR.out.on hw)).mono ?_);rintro e fZ ⟨rfl,iO⟩);obtain ⟨D,R,S,X,O,TO⟩:=b6 D R S X O TO iO;replace hw:=dT hw iO;clear iO;go_upto_region 10 with fail;refine aO (fun lq gq T => ?_);have sJ:=D.out.here;have uP:=R.out.here;have sN:=S.out.here;have uQ:=X.out.here;have sK:=O.out.le;have uO:=TO.out.le;have uh:=hw.size;obtain ⟨D,R,S,X,O,TO⟩:=b6 D R S X O TO gq;replace hw:=dT hw gq;clear gq;generalize fZ.heap.size=g23 at *;have aC:=T.out.e0;go_wp2_with fail;clear aC;((with_reducible refine (uo _ _).mono ?_);rintro e vV ⟨rfl,rfl⟩);rw [show ql 5=true from rfl];obtain ⟨q,hq,Hq⟩ : ∃ q:Nat,65+(k:Int)=(q:Int)∧Hid (q=65+k):=⟨65+k,by omega,rfl⟩
    have JY:(q:Int) < 128:=by have:=Hq.out;omega
    have aC:=T.out.e0;have bH:=T.out.e1;have O8:=T.out.free 1;go_upto_region 12 with fail;have hstr:Utf8.encode (q:Int) = { data:=(lN k).toArray }:=by rw [EI q (by omega),Hq.out];rfl
    rw [hstr];clear hstr JY Hq hq aC bH O8;generalize jD:lq.setCell _ _=wR;obtain ⟨D,R,S,X,O,TO⟩:=f6 D R S X O TO (eF jD);replace T:=yT T jD;replace hw:=tf hw jD;clear jD;have dW:=D.out.e0;have aC:=T.out.e0;go_wp2_with fail;have OB:=hiQ O.out.now;have hTl:=T.out.here;clear dW aC;((with_reducible refine (HPA.out true _ (HR.out.on hw)).mono ?_);rintro e vT ⟨vm,rfl,uM,adX⟩);obtain ⟨D,R,S,X,T,O,TO⟩:=b7 D R S X T O TO adX;replace hw:=dT hw adX;clear adX;have hsm:KD vm (Value.slice A0 k c0).ownBlock:=KF OB.out uM (Nat.le_refl _);replace uM:=own_base uM (show g23+1≤_ from hTl);have MO:=hiQ (Kept.own uM);obtain ⟨Am,cm,rfl⟩:=jF uM;clear uM OB hTl;have bf:=T.out.e6;have VD:=T.out.free 6;go_upto_region 39 with fail;clear bf VD;generalize akW:vT.setCell _ _=zl;obtain ⟨D,R,S,X,O,TO,MO⟩:=f7 D R S X O TO MO (eF akW);replace T:=qM T akW;replace hw:=tf hw akW;clear akW;have JX:=hiQ (own_base MO.out.now (show gS+1≤g23+1 by omega));clear MO;obtain ⟨gX,rfl⟩ : ∃ g,g=g12:=⟨_,rfl⟩
    obtain ⟨gT,rfl⟩ : ∃ g,g=g23:=⟨_,rfl⟩
    obtain ⟨nJ,hWS⟩ : ∃ x,x=zl:=⟨_,rfl⟩
    exact zAu
   ·
    skip
    have tb:((x.b:Int) % 2 == 1)=decide (x.b % 2=1):=by rw [Bool.eq_iff_iff];simp;omega
    have hxb:(x.b:Int) < 256:=by omega
    by_cases hpe:(oH xs k false x.parts).isEmpty=true
    ·
     skip
     rw [hkq] at hki;have HI:=hiQ hki;have mg:iL xs k x = { iM with kind:=5,name:=lN k }:=by unfold iL;simp [hkq,ql,hpe]
     rw [mg] at htk;have wO:=hiQ htk;have AQ:Hid (qJ { iM with kind:=5,name:=lN k }):=by have:=alm xs k x h5.2 hlt;rw [mg] at this;exact this
     clear hki htk mg hkr hkq;have hpf:=fun W h => HPA.out false W h;rw [List.isEmpty_iff.1 hpe] at hpf;have HPF:=hiQ hpf;clear hpf hpe;have dW:=D.out.e0;go_upto_region 9 with fail;clear dW;refine aO (fun dw aY X => ?_);have alh:=D.out.here;have akV:=R.out.here;have qA:=S.out.here;have alj:=O.out.le;have sO:=TO.out.le;have sW:=hw.size;obtain ⟨D,R,S,O,TO⟩:=b5 D R S O TO aY;replace hw:=dT hw aY;clear aY;generalize wr.heap.size=g12 at *;clear n0 n1 n2 n3 n4;have dW:=D.out.e0;go_wp2_with fail;clear dW;((with_reducible refine (HI.out _ (HR.out.on hw)).mono ?_);rintro e fZ ⟨rfl,iO⟩);obtain ⟨D,R,S,X,O,TO⟩:=b6 D R S X O TO iO;replace hw:=dT hw iO;clear iO;go_upto_region 10 with fail;refine aO (fun lq gq T => ?_);have sJ:=D.out.here;have uP:=R.out.here;have sN:=S.out.here;have uQ:=X.out.here;have sK:=O.out.le;have uO:=TO.out.le;have uh:=hw.size;obtain ⟨D,R,S,X,O,TO⟩:=b6 D R S X O TO gq;replace hw:=dT hw gq;clear gq;generalize fZ.heap.size=g23 at *;have aC:=T.out.e0;go_wp2_with fail;clear aC;((with_reducible refine (uo _ _).mono ?_);rintro e vV ⟨rfl,rfl⟩);rw [show ql 6=true from rfl];obtain ⟨q,hq,Hq⟩ : ∃ q:Nat,65+(k:Int)=(q:Int)∧Hid (q=65+k):=⟨65+k,by omega,rfl⟩
     have JY:(q:Int) < 128:=by have:=Hq.out;omega
     have aC:=T.out.e0;have bH:=T.out.e1;have O8:=T.out.free 1;go_upto_region 12 with fail;have hstr:Utf8.encode (q:Int) = { data:=(lN k).toArray }:=by rw [EI q (by omega),Hq.out];rfl
     rw [hstr];clear hstr JY Hq hq aC bH O8;generalize jD:lq.setCell _ _=wR;obtain ⟨D,R,S,X,O,TO⟩:=f6 D R S X O TO (eF jD);replace T:=yT T jD;replace hw:=tf hw jD;clear jD;have aC:=T.out.e0;have aJ:=T.out.e9;have bY:=X.out.e2;have Vz:=T.out.free 9;go_upto_region 28 with fail;clear aC aJ bY Vz;generalize lI:wR.setCell _ _=vT;obtain ⟨D,R,S,X,O,TO⟩:=f6 D R S X O TO (eF lI);replace T:=Cc T lI;replace hw:=tf hw lI;clear lI;have dW:=D.out.e0;have aC:=T.out.e0;go_wp2_with fail;have OB:=hiQ O.out.now;have hTl:=T.out.here;clear dW aC;((with_reducible refine (HPF.out _ (HR.out.on hw)).mono ?_);rintro e zl ⟨vm,rfl,uM,Fz⟩);obtain ⟨D,R,S,X,T,O,TO⟩:=b7 D R S X T O TO Fz;replace hw:=dT hw Fz;clear Fz;have hsm:KD vm (Value.slice A0 k c0).ownBlock:=KF OB.out uM (Nat.le_refl _);replace uM:=own_base uM (show g23+1≤_ from hTl);have MO:=hiQ (Kept.own uM);obtain ⟨Am,cm,rfl⟩ : ∃ A c,vm = .slice A 0 c:=jF uM;clear uM OB hTl;have bf:=T.out.e6;have VD:=T.out.free 6;go_upto_region 29 with fail;clear bf VD;generalize mZ:zl.setCell _ _=E5;obtain ⟨D,R,S,X,O,TO,MO⟩:=f7 D R S X O TO MO (eF mZ);replace T:=qM T mZ;replace hw:=tf hw mZ;clear mZ MO hsm;have bf:=T.out.e6;have bH:=T.out.e1;go_upto_region 30 with fail;go_upto_region 39 with (refine sR T.out ?_)
     clear bf bH;generalize Zx:E5.setRow _ _=amm;obtain ⟨D,R,S,X,O,TO⟩:=f6 D R S X O TO (eR Zx);replace T:=dV T Zx;replace hw:=tr hw Zx;clear Zx;obtain ⟨gX,rfl⟩ : ∃ g,g=g12:=⟨_,rfl⟩
     obtain ⟨gT,rfl⟩ : ∃ g,g=g23:=⟨_,rfl⟩
     obtain ⟨nJ,hWS⟩ : ∃ x,x=amm:=⟨_,rfl⟩
     exact zAu
    skip
    rw [hkq] at hki;have HI:=hiQ hki;have mg:iL xs k x = { iM with kind:=6,name:=lN k,opn:=decide (x.b % 2=1),ah:=oH xs k false x.parts }:=by unfold iL;simp [hkq,ql,hpe]
    rw [mg] at htk;have wO:=hiQ htk;have AQ:Hid (qJ { iM with kind:=6,name:=lN k,opn:=decide (x.b % 2=1),ah:=oH xs k false x.parts }):=by have:=alm xs k x h5.2 hlt;rw [mg] at this;exact this
    clear hki htk mg hkr hkq;have hp0:(((oH xs k false x.parts).length:Int) == 0)=false:=by
     refine beq_eq_false_iff_ne.2 ?_;intro h;apply hpe
     rw [List.isEmpty_iff];exact List.eq_nil_of_length_eq_zero (by omega)
    clear hpe;have dW:=D.out.e0;go_upto_region 9 with fail;clear dW;refine aO (fun dw aY X => ?_);have alh:=D.out.here;have akV:=R.out.here;have qA:=S.out.here;have alj:=O.out.le;have sO:=TO.out.le;have sW:=hw.size;obtain ⟨D,R,S,O,TO⟩:=b5 D R S O TO aY;replace hw:=dT hw aY;clear aY;generalize wr.heap.size=g12 at *;clear n0 n1 n2 n3 n4;have dW:=D.out.e0;go_wp2_with fail;clear dW;((with_reducible refine (HI.out _ (HR.out.on hw)).mono ?_);rintro e fZ ⟨rfl,iO⟩);obtain ⟨D,R,S,X,O,TO⟩:=b6 D R S X O TO iO;replace hw:=dT hw iO;clear iO;go_upto_region 10 with fail;refine aO (fun lq gq T => ?_);have sJ:=D.out.here;have uP:=R.out.here;have sN:=S.out.here;have uQ:=X.out.here;have sK:=O.out.le;have uO:=TO.out.le;have uh:=hw.size;obtain ⟨D,R,S,X,O,TO⟩:=b6 D R S X O TO gq;replace hw:=dT hw gq;clear gq;generalize fZ.heap.size=g23 at *;have aC:=T.out.e0;go_wp2_with fail;clear aC;((with_reducible refine (uo _ _).mono ?_);rintro e vV ⟨rfl,rfl⟩);rw [show ql 6=true from rfl];obtain ⟨q,hq,Hq⟩ : ∃ q:Nat,65+(k:Int)=(q:Int)∧Hid (q=65+k):=⟨65+k,by omega,rfl⟩
    have JY:(q:Int) < 128:=by have:=Hq.out;omega
    have aC:=T.out.e0;have bH:=T.out.e1;have O8:=T.out.free 1;go_upto_region 12 with fail;have hstr:Utf8.encode (q:Int) = { data:=(lN k).toArray }:=by rw [EI q (by omega),Hq.out];rfl
    rw [hstr];clear hstr JY Hq hq aC bH O8;generalize jD:lq.setCell _ _=wR;obtain ⟨D,R,S,X,O,TO⟩:=f6 D R S X O TO (eF jD);replace T:=yT T jD;replace hw:=tf hw jD;clear jD;have aC:=T.out.e0;have aJ:=T.out.e9;have bY:=X.out.e2;have Vz:=T.out.free 9;go_upto_region 28 with fail;clear aC aJ bY Vz;generalize lI:wR.setCell _ _=vT;obtain ⟨D,R,S,X,O,TO⟩:=f6 D R S X O TO (eF lI);replace T:=Cc T lI;replace hw:=tf hw lI;clear lI;have dW:=D.out.e0;have aC:=T.out.e0;go_wp2_with fail;have OB:=hiQ O.out.now;have hTl:=T.out.here;clear dW aC;((with_reducible refine (HPA.out false _ (HR.out.on hw)).mono ?_);rintro e zl ⟨vm,rfl,uM,Fz⟩);obtain ⟨D,R,S,X,T,O,TO⟩:=b7 D R S X T O TO Fz;replace hw:=dT hw Fz;clear Fz;have hsm:KD vm (Value.slice A0 k c0).ownBlock:=KF OB.out uM (Nat.le_refl _);replace uM:=own_base uM (show g23+1≤_ from hTl);have MO:=hiQ (Kept.own uM);obtain ⟨Am,cm,rfl⟩:=jF uM;clear uM OB hTl;have bf:=T.out.e6;have VD:=T.out.free 6;go_upto_region 29 with fail;clear bf VD;generalize mZ:zl.setCell _ _=E5;obtain ⟨D,R,S,X,O,TO,MO⟩:=f7 D R S X O TO MO (eF mZ);replace T:=qM T mZ;replace hw:=tf hw mZ;clear mZ;have JX:=hiQ (own_base MO.out.now (show gS+1≤g23+1 by omega));clear MO;exact zHe
   ·
    skip
    rw [hkq] at hki;have HI:=hiQ hki;have mg:iL xs k x = { iM with kind:=7,max:=((x.a % 4:Nat):Int),elem:=((x.c % xs.length:Nat):Int) }:=by unfold iL;simp [hkq]
    rw [mg] at htk;have wO:=hiQ htk;have AQ:Hid (qJ { iM with kind:=7,max:=((x.a % 4:Nat):Int),elem:=((x.c % xs.length:Nat):Int) }):=by have:=alm xs k x h5.2 hlt;rw [mg] at this;exact this
    clear hki htk mg hkr hkq;have ha4:(x.a:Int).tmod 4=((x.a % 4:Nat):Int):=by rw [Int.tmod_eq_emod_of_nonneg (by omega)];push_cast;rfl
    have hc4:(x.c:Int).tmod xs.length=((x.c % xs.length:Nat):Int):=by rw [Int.tmod_eq_emod_of_nonneg (by omega)];push_cast;rfl
    have ha5:x.a % 4 < 4:=by omega
    have hc5:x.c % xs.length < xs.length:=Nat.mod_lt _ h5.1;generalize x.a % 4=a4 at *;generalize x.c % xs.length=cn at *;have dW:=D.out.e0;go_upto_region 9 with fail;clear dW;refine aO (fun dw aY X => ?_);have alh:=D.out.here;have akV:=R.out.here;have qA:=S.out.here;have alj:=O.out.le;have sO:=TO.out.le;have sW:=hw.size;obtain ⟨D,R,S,O,TO⟩:=b5 D R S O TO aY;replace hw:=dT hw aY;clear aY;generalize wr.heap.size=g12 at *;clear n0 n1 n2 n3 n4;have dW:=D.out.e0;go_wp2_with fail;clear dW;((with_reducible refine (HI.out _ (HR.out.on hw)).mono ?_);rintro e fZ ⟨rfl,iO⟩);obtain ⟨D,R,S,X,O,TO⟩:=b6 D R S X O TO iO;replace hw:=dT hw iO;clear iO;go_upto_region 10 with fail;refine aO (fun lq gq T => ?_);have sJ:=D.out.here;have uP:=R.out.here;have sN:=S.out.here;have uQ:=X.out.here;have sK:=O.out.le;have uO:=TO.out.le;have uh:=hw.size;obtain ⟨D,R,S,X,O,TO⟩:=b6 D R S X O TO gq;replace hw:=dT hw gq;clear gq;generalize fZ.heap.size=g23 at *;have aC:=T.out.e0;go_wp2_with fail;clear aC;((with_reducible refine (uo _ _).mono ?_);rintro e vV ⟨rfl,rfl⟩);rw [show ql 7=false from rfl];have aC:=T.out.e0;go_upto_region 32 with fail;have e0:IntKind.i64.wrap (a4:Int)=a4:=IntWalk.i64_in _ (by omega);have e1:IntKind.i64.wrap (x.c:Int)=x.c:=IntWalk.i64_in _ (by omega);have e2:¬ ((xs.length:Int)=0):=by omega
    have e3:¬ (xs = []):=by intro h;rw [h] at h5;simp at h5
    have aW:=T.out.e4;have aV:=T.out.e8;have Jj:=T.out.free 4;have Jk:=T.out.free 8;have bJ:=X.out.e1;have bZ:=X.out.e3;go_region_held3 (fun w' => w'.cell? ⟨g12,1,none⟩=some (.int .u8 x.a)∧w'.cell? ⟨g12,3,none⟩=some (.int .u8 x.c)) (first | (go_keep;done) | exact ⟨bJ,bZ⟩ | (((repeat' apply And.intro) <;> ((repeat (with_reducible (first | refine Eq.trans (Ec _ _) ?_ | refine Eq.trans (cell_far _ _ _ _ _ (by dsimp only;omega)) ?_)));assumption));done))
     (fail)
    clear e0 e1 e2 e3
    all_goals
     clear aC aW aV Jj Jk bJ bZ;generalize jD:lq.setCell _ _=wR;obtain ⟨D,R,S,X,O,TO⟩:=f6 D R S X O TO (eF jD);replace T:=zB T jD;replace hw:=tf hw jD;clear jD;generalize lI:wR.setCell _ _=vT;obtain ⟨D,R,S,X,O,TO⟩:=f6 D R S X O TO (eF lI);replace T:=JZ T lI;replace hw:=tf hw lI;clear lI;have adY:Below vT.heap.size vT (vT.drew):=(Below.refl _ _).drew;obtain ⟨D,R,S,X,T,O,TO⟩:=b7 D R S X T O TO adY;replace hw:=dT hw adY;clear adY;generalize vT.drew=ahL at *;obtain ⟨gX,rfl⟩ : ∃ g,g=g12:=⟨_,rfl⟩
     obtain ⟨gT,rfl⟩ : ∃ g,g=g23:=⟨_,rfl⟩
     obtain ⟨nJ,hWS⟩ : ∃ x,x=ahL:=⟨_,rfl⟩
     exact zAu
   ·
    skip
    have ha4:(x.a:Int).tmod 4=((x.a % 4:Nat):Int):=by rw [Int.tmod_eq_emod_of_nonneg (by omega)];push_cast;rfl
    have hc4:(x.c:Int).tmod xs.length=((x.c % xs.length:Nat):Int):=by rw [Int.tmod_eq_emod_of_nonneg (by omega)];push_cast;rfl
    have ha5:x.a % 4 < 4:=by omega
    have hc5:x.c % xs.length < xs.length:=Nat.mod_lt _ h5.1;have hkey:=fun W h => Sr xs (.slice (some ⟨b,o,none⟩) xs.length c) x.b W hint.2.2.1 h5 h;cases hkn:vw xs x.b with
    | some j =>
     rw [hkq] at hki;have HI:=hiQ hki;have mg:iL xs k x = { iM with kind:=8,max:=((x.a % 4:Nat):Int),key:=j,elem:=((x.c % xs.length:Nat):Int) }:=by unfold iL;simp [hkq,hkn]
     rw [mg] at htk;have wO:=hiQ htk;have AQ:Hid (qJ { iM with kind:=8,max:=((x.a % 4:Nat):Int),key:=j,elem:=((x.c % xs.length:Nat):Int) }):=by have:=alm xs k x h5.2 hlt;rw [mg] at this;exact this
     clear hki htk mg hkr hkq;rw [hkn] at hkey;have QJ:∀ W,_→Calls _ _ _ W (fun e w' => e = .returned (.int .i64 (j:Int))∧Below W.heap.size W w'):=hkey;have HK:=hiQ QJ;have tj:decide ((j:Int) < 0)=false:=decide_eq_false (by omega);clear hkey QJ hkn;generalize x.a % 4=a4 at *;generalize x.c % xs.length=cn at *;have dW:=D.out.e0;go_upto_region 9 with fail;clear dW;refine aO (fun dw aY X => ?_);have alh:=D.out.here;have akV:=R.out.here;have qA:=S.out.here;have alj:=O.out.le;have sO:=TO.out.le;have sW:=hw.size;obtain ⟨D,R,S,O,TO⟩:=b5 D R S O TO aY;replace hw:=dT hw aY;clear aY;generalize wr.heap.size=g12 at *;clear n0 n1 n2 n3 n4;have dW:=D.out.e0;go_wp2_with fail;clear dW;((with_reducible refine (HI.out _ (HR.out.on hw)).mono ?_);rintro e fZ ⟨rfl,iO⟩);obtain ⟨D,R,S,X,O,TO⟩:=b6 D R S X O TO iO;replace hw:=dT hw iO;clear iO;go_upto_region 10 with fail;refine aO (fun lq gq T => ?_);have sJ:=D.out.here;have uP:=R.out.here;have sN:=S.out.here;have uQ:=X.out.here;have sK:=O.out.le;have uO:=TO.out.le;have uh:=hw.size;obtain ⟨D,R,S,X,O,TO⟩:=b6 D R S X O TO gq;replace hw:=dT hw gq;clear gq;generalize fZ.heap.size=g23 at *;have aC:=T.out.e0;go_wp2_with fail;clear aC;((with_reducible refine (uo _ _).mono ?_);rintro e vV ⟨rfl,rfl⟩);rw [show ql 8=false from rfl];have aC:=T.out.e0;go_upto_region 34 with fail;have e0:IntKind.i64.wrap (a4:Int)=a4:=IntWalk.i64_in _ (by omega);have e1:IntKind.i64.wrap (x.c:Int)=x.c:=IntWalk.i64_in _ (by omega);have e2:¬ ((xs.length:Int)=0):=by omega
     have e3:¬ (xs = []):=by intro h;rw [h] at h5;simp at h5
     obtain ⟨-,-,-,-,aW,-,-,bF,aV,-⟩:=T.out.c10;have Jj:=T.out.free 4;have VE:=T.out.free 7;have Jk:=T.out.free 8;have bJ:=X.out.e1;have bY:=X.out.e2;have bZ:=X.out.e3;have dW:=D.out.e0;go_region_held3 (fun w' => w'.cell? ⟨g12,1,none⟩=some (.int .u8 x.a)∧w'.cell? ⟨g12,2,none⟩=some (.int .u8 x.b)∧w'.cell? ⟨g12,3,none⟩=some (.int .u8 x.c)∧w'.cell? ⟨w.heap.size,0,none⟩=some (.slice (some ⟨b,o,none⟩) xs.length c)) (first | (go_keep;done) | exact ⟨bJ,bY,bZ,dW⟩ | (((repeat' apply And.intro) <;> ((repeat (with_reducible (first | refine Eq.trans (Ec _ _) ?_ | refine Eq.trans (cell_far _ _ _ _ _ (by dsimp only;omega)) ?_)));assumption));done))
      (first
       | (go_at_call 60;(first | (with_reducible refine (HK.out _ (HR.out.on hw)).mono ?_) | (with_reducible refine (HK.out _ (HR.out.on hw.drew)).mono ?_));rintro e wn ⟨rfl,hbn⟩;have D:Hid (Has wn (w.heap.size) 49 #[.slice (some ⟨b,o,none⟩) xs.length c]):=hiQ (by first | exact D.out.below hbn D.out.here | exact D.out.drew.below hbn D.out.here);have R:Hid (Has wn (w.heap.size+1) 25 #[.slice none 0 0]):=hiQ (by first | exact R.out.below hbn R.out.here | exact R.out.drew.below hbn R.out.here);have S:Hid (Has wn (gS) 25 #[.slice A0 k c0]):=hiQ (by first | exact S.out.below hbn S.out.here | exact S.out.drew.below hbn S.out.here);have X:Hid (Has wn (g12) 99 #[.int .u8 x.kind,.int .u8 x.a,.int .u8 x.b,.int .u8 x.c,.slice P0 x.parts.length cp]):=hiQ (by first | exact X.out.below hbn X.out.here | exact X.out.drew.below hbn X.out.here);have T:Hid (Has wn (g23) 71 #[.int .i64 8,.string ⟨#[]⟩,.int .i64 0,.int .i64 0,.int .i64 0,.slice none 0 0,.slice none 0 0,.int .i64 0,.int .i64 0,.bool false]):=hiQ (by first | exact T.out.below hbn T.out.here | exact T.out.drew.below hbn T.out.here);have O:=hiQ (Kept.TQ O.out hbn);have TO:=hiQ (Kept.TQ TO.out hbn);have hw:Below w.heap.size w wn:=(by first | exact hw.trans (hbn.mono hw.size) | exact (hw.drew).trans (hbn.mono hw.size));have aC:wn.cell? ⟨g23,0,none⟩=some (.int .i64 8):=T.out.cell 0;have aW:wn.cell? ⟨g23,4,none⟩=some (.int .i64 0):=T.out.cell 4;have bF:wn.cell? ⟨g23,7,none⟩=some (.int .i64 0):=T.out.cell 7;have aV:wn.cell? ⟨g23,8,none⟩=some (.int .i64 0):=T.out.cell 8;have Jj:wn.frozen? ⟨g23,4,none⟩=false:=T.out.free 4;have VE:wn.frozen? ⟨g23,7,none⟩=false:=T.out.free 7;have Jk:wn.frozen? ⟨g23,8,none⟩=false:=T.out.free 8;have bJ:wn.cell? ⟨g12,1,none⟩=some (.int .u8 x.a):=X.out.cell 1;have bY:wn.cell? ⟨g12,2,none⟩=some (.int .u8 x.b):=X.out.cell 2;have bZ:wn.cell? ⟨g12,3,none⟩=some (.int .u8 x.c):=X.out.cell 3;have dW:wn.cell? ⟨w.heap.size,0,none⟩=some (.slice (some ⟨b,o,none⟩) xs.length c):=D.out.cell 0))
     clear e0 e1 e2 e3
     all_goals
      clear aC aW bF aV Jj VE Jk bJ bY bZ dW;generalize jD:wn.setCell _ _=wR;obtain ⟨D,R,S,X,O,TO⟩:=f6 D R S X O TO (eF jD);replace T:=zB T jD;replace hw:=tf hw jD;clear jD;generalize lI:wR.setCell _ _=vT;obtain ⟨D,R,S,X,O,TO⟩:=f6 D R S X O TO (eF lI);replace T:=Ky T lI;replace hw:=tf hw lI;clear lI;generalize akW:vT.setCell _ _=zl;obtain ⟨D,R,S,X,O,TO⟩:=f6 D R S X O TO (eF akW);replace T:=JZ T akW;replace hw:=tf hw akW;clear akW;have bF:=T.out.e7;obtain ⟨gX,rfl⟩ : ∃ g,g=g12:=⟨_,rfl⟩
      obtain ⟨gT,rfl⟩ : ∃ g,g=g23:=⟨_,rfl⟩
      clear bF;obtain ⟨nJ,hWS⟩ : ∃ x,x=zl:=⟨_,rfl⟩
      exact zAu
    | none =>
     rw [hkq] at hki;have HI:=hiQ hki;have mg:iL xs k x = { iM with kind:=7,max:=((x.a % 4:Nat):Int),elem:=((x.c % xs.length:Nat):Int) }:=by unfold iL;simp [hkq,hkn]
     rw [mg] at htk;have wO:=hiQ htk;have AQ:Hid (qJ { iM with kind:=7,max:=((x.a % 4:Nat):Int),elem:=((x.c % xs.length:Nat):Int) }):=by have:=alm xs k x h5.2 hlt;rw [mg] at this;exact this
     clear hki htk mg hkr hkq;rw [hkn] at hkey;have QJ:∀ W,_→Calls _ _ _ W (fun e w' => e = .returned (.int .i64 (-1))∧Below W.heap.size W w'):=hkey;have HK:=hiQ QJ;clear hkey QJ hkn;generalize x.a % 4=a4 at *;generalize x.c % xs.length=cn at *;have dW:=D.out.e0;go_upto_region 9 with fail;clear dW;refine aO (fun dw aY X => ?_);have alh:=D.out.here;have akV:=R.out.here;have qA:=S.out.here;have alj:=O.out.le;have sO:=TO.out.le;have sW:=hw.size;obtain ⟨D,R,S,O,TO⟩:=b5 D R S O TO aY;replace hw:=dT hw aY;clear aY;generalize wr.heap.size=g12 at *;clear n0 n1 n2 n3 n4;have dW:=D.out.e0;go_wp2_with fail;clear dW;((with_reducible refine (HI.out _ (HR.out.on hw)).mono ?_);rintro e fZ ⟨rfl,iO⟩);obtain ⟨D,R,S,X,O,TO⟩:=b6 D R S X O TO iO;replace hw:=dT hw iO;clear iO;go_upto_region 10 with fail;refine aO (fun lq gq T => ?_);have sJ:=D.out.here;have uP:=R.out.here;have sN:=S.out.here;have uQ:=X.out.here;have sK:=O.out.le;have uO:=TO.out.le;have uh:=hw.size;obtain ⟨D,R,S,X,O,TO⟩:=b6 D R S X O TO gq;replace hw:=dT hw gq;clear gq;generalize fZ.heap.size=g23 at *;have aC:=T.out.e0;go_wp2_with fail;clear aC;((with_reducible refine (uo _ _).mono ?_);rintro e vV ⟨rfl,rfl⟩);rw [show ql 8=false from rfl];have aC:=T.out.e0;go_upto_region 34 with fail;have e0:IntKind.i64.wrap (a4:Int)=a4:=IntWalk.i64_in _ (by omega);have e1:IntKind.i64.wrap (x.c:Int)=x.c:=IntWalk.i64_in _ (by omega);have e2:¬ ((xs.length:Int)=0):=by omega
     have e3:¬ (xs = []):=by intro h;rw [h] at h5;simp at h5
     obtain ⟨-,-,-,-,aW,-,-,bF,aV,-⟩:=T.out.c10;have Jj:=T.out.free 4;have VE:=T.out.free 7;have Jk:=T.out.free 8;have bJ:=X.out.e1;have bY:=X.out.e2;have bZ:=X.out.e3;have dW:=D.out.e0;go_region_held3 (fun w' => w'.cell? ⟨g12,1,none⟩=some (.int .u8 x.a)∧w'.cell? ⟨g12,2,none⟩=some (.int .u8 x.b)∧w'.cell? ⟨g12,3,none⟩=some (.int .u8 x.c)∧w'.cell? ⟨w.heap.size,0,none⟩=some (.slice (some ⟨b,o,none⟩) xs.length c)) (first | (go_keep;done) | exact ⟨bJ,bY,bZ,dW⟩ | (((repeat' apply And.intro) <;> ((repeat (with_reducible (first | refine Eq.trans (Ec _ _) ?_ | refine Eq.trans (cell_far _ _ _ _ _ (by dsimp only;omega)) ?_)));assumption));done))
      (first
       | (go_at_call 60;(first | (with_reducible refine (HK.out _ (HR.out.on hw)).mono ?_) | (with_reducible refine (HK.out _ (HR.out.on hw.drew)).mono ?_));rintro e wn ⟨rfl,hbn⟩;have D:Hid (Has wn (w.heap.size) 49 #[.slice (some ⟨b,o,none⟩) xs.length c]):=hiQ (by first | exact D.out.below hbn D.out.here | exact D.out.drew.below hbn D.out.here);have R:Hid (Has wn (w.heap.size+1) 25 #[.slice none 0 0]):=hiQ (by first | exact R.out.below hbn R.out.here | exact R.out.drew.below hbn R.out.here);have S:Hid (Has wn (gS) 25 #[.slice A0 k c0]):=hiQ (by first | exact S.out.below hbn S.out.here | exact S.out.drew.below hbn S.out.here);have X:Hid (Has wn (g12) 99 #[.int .u8 x.kind,.int .u8 x.a,.int .u8 x.b,.int .u8 x.c,.slice P0 x.parts.length cp]):=hiQ (by first | exact X.out.below hbn X.out.here | exact X.out.drew.below hbn X.out.here);have T:Hid (Has wn (g23) 71 #[.int .i64 8,.string ⟨#[]⟩,.int .i64 0,.int .i64 0,.int .i64 0,.slice none 0 0,.slice none 0 0,.int .i64 0,.int .i64 0,.bool false]):=hiQ (by first | exact T.out.below hbn T.out.here | exact T.out.drew.below hbn T.out.here);have O:=hiQ (Kept.TQ O.out hbn);have TO:=hiQ (Kept.TQ TO.out hbn);have hw:Below w.heap.size w wn:=(by first | exact hw.trans (hbn.mono hw.size) | exact (hw.drew).trans (hbn.mono hw.size));have aC:wn.cell? ⟨g23,0,none⟩=some (.int .i64 8):=T.out.cell 0;have aW:wn.cell? ⟨g23,4,none⟩=some (.int .i64 0):=T.out.cell 4;have bF:wn.cell? ⟨g23,7,none⟩=some (.int .i64 0):=T.out.cell 7;have aV:wn.cell? ⟨g23,8,none⟩=some (.int .i64 0):=T.out.cell 8;have Jj:wn.frozen? ⟨g23,4,none⟩=false:=T.out.free 4;have VE:wn.frozen? ⟨g23,7,none⟩=false:=T.out.free 7;have Jk:wn.frozen? ⟨g23,8,none⟩=false:=T.out.free 8;have bJ:wn.cell? ⟨g12,1,none⟩=some (.int .u8 x.a):=X.out.cell 1;have bY:wn.cell? ⟨g12,2,none⟩=some (.int .u8 x.b):=X.out.cell 2;have bZ:wn.cell? ⟨g12,3,none⟩=some (.int .u8 x.c):=X.out.cell 3;have dW:wn.cell? ⟨w.heap.size,0,none⟩=some (.slice (some ⟨b,o,none⟩) xs.length c):=D.out.cell 0))
     clear e0 e1 e2 e3
     all_goals
      clear aC aW bF aV Jj VE Jk bJ bY bZ dW;generalize jD:wn.setCell _ _=wR;obtain ⟨D,R,S,X,O,TO⟩:=f6 D R S X O TO (eF jD);replace T:=zB T jD;replace hw:=tf hw jD;clear jD;generalize lI:wR.setCell _ _=vT;obtain ⟨D,R,S,X,O,TO⟩:=f6 D R S X O TO (eF lI);replace T:=Ky T lI;replace hw:=tf hw lI;clear lI;generalize akW:vT.setCell _ _=zl;obtain ⟨D,R,S,X,O,TO⟩:=f6 D R S X O TO (eF akW);replace T:=JZ T akW;replace hw:=tf hw akW;clear akW;obtain ⟨-,-,-,-,aW,-,-,bF,aV,-⟩:=T.out.c10;go_upto_region 36 with fail;go_upto_region 39 with (refine sR T.out ?_)
      clear aW bF aV;generalize mZ:zl.setRow _ _=E5;obtain ⟨D,R,S,X,O,TO⟩:=f6 D R S X O TO (eR mZ);replace T:=dV T mZ;replace hw:=tr hw mZ;clear mZ;exact zHe
   skip
   rw [hkq] at hki;have HI:=hiQ hki;have mg:iL xs k x = { iM with kind:=9,elem:=((x.c % xs.length:Nat):Int) }:=by unfold iL;simp [hkq]
   rw [mg] at htk;have wO:=hiQ htk;have AQ:Hid (qJ { iM with kind:=9,elem:=((x.c % xs.length:Nat):Int) }):=by have:=alm xs k x h5.2 hlt;rw [mg] at this;exact this
   clear hki htk mg hkr hkq;have hc4:(x.c:Int) % xs.length=((x.c % xs.length:Nat):Int):=by push_cast;rfl
   have hc5:x.c % xs.length < xs.length:=Nat.mod_lt _ h5.1;have hxc:(x.c:Int) < 256:=by omega
   have hz:((xs.length:Int) == 0)=false:=beq_eq_false_iff_ne.2 (by omega);generalize x.c % xs.length=cn at *;have dW:=D.out.e0;go_upto_region 9 with fail;clear dW;refine aO (fun dw aY X => ?_);have alh:=D.out.here;have akV:=R.out.here;have qA:=S.out.here;have alj:=O.out.le;have sO:=TO.out.le;have sW:=hw.size;obtain ⟨D,R,S,O,TO⟩:=b5 D R S O TO aY;replace hw:=dT hw aY;clear aY;generalize wr.heap.size=g12 at *;clear n0 n1 n2 n3 n4;have dW:=D.out.e0;go_wp2_with fail;clear dW;((with_reducible refine (HI.out _ (HR.out.on hw)).mono ?_);rintro e fZ ⟨rfl,iO⟩);obtain ⟨D,R,S,X,O,TO⟩:=b6 D R S X O TO iO;replace hw:=dT hw iO;clear iO;go_upto_region 10 with fail;refine aO (fun lq gq T => ?_);have sJ:=D.out.here;have uP:=R.out.here;have sN:=S.out.here;have uQ:=X.out.here;have sK:=O.out.le;have uO:=TO.out.le;have uh:=hw.size;obtain ⟨D,R,S,X,O,TO⟩:=b6 D R S X O TO gq;replace hw:=dT hw gq;clear gq;generalize fZ.heap.size=g23 at *;have aC:=T.out.e0;go_wp2_with fail;clear aC;((with_reducible refine (uo _ _).mono ?_);rintro e vV ⟨rfl,rfl⟩);rw [show ql 9=false from rfl];have aC:=T.out.e0;have aV:=T.out.e8;have bZ:=X.out.e3;have Jk:=T.out.free 8;go_upto_region 39 with fail;clear aC aV bZ Jk;generalize jD:lq.setCell _ _=wR;obtain ⟨D,R,S,X,O,TO⟩:=f6 D R S X O TO (eF jD);replace T:=JZ T jD;exact zGs
  obtain rfl:k=xs.length:=by omega
  replace D:=hiQ D;replace R:=hiQ R;replace S:=hiQ S;have O:=hiQ (Kept.own hown);have TO:=hiQ (Kept.typs hto);clear hto hown;have aH:=S.out.e0;go_upto_region 40 with fail;clear aH;have iV:=R.out.e0;have aH:=S.out.e0;have rM:=R.out.free 0;go_wp2_with fail;clear iV aH rM;generalize kQ:wr.setCell _ _=kL;obtain ⟨D,S,O,TO⟩:=f4 D S O TO (eF kQ);replace R:=xR R kQ;replace hw:=tf hw kQ;clear kQ;have hrd:=abA (ts:=jw xs) (L:=w.heap.size) (by rw [EW];exact O.out) (by have:=TO.out;rwa [List.take_of_length_le (by rw [EW];omega)] at this) (by omega);have HRD:=hiQ hrd;clear hrd;exact bodyPost_ret (v:=.tuple #[.agg #[.slice A0 xs.length c0],.bool true]) (by simp [results,Tryz.results26,go_sem,R.out.e0]) rfl (⟨_,rfl,HRD.out,hw⟩)
end Go.Proofs.YtlamhkffnlgofaaGreatDoor
