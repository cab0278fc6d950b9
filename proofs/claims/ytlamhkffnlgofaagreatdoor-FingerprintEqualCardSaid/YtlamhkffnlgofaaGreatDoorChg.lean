/- What Changed of sheaveref07 computes: a draft with as many types. No condition. -/
import Derived.Test.YtlamhkffnlgofaaGreatDoorHAT
import Derived.BigQuiet
set_option maxHeartbeats 8000000
set_option maxRecDepth 100000
namespace Go.Proofs.YtlamhkffnlgofaaGreatDoor
open Go.ChangeShapes Go.WideShapes Go.ChangeAt Go.RowKit
theorem ak5:(Tryz.prog.info? 99).map (fun i => (i.zero,i.size,i.bytes))=some (some (.agg #[.int .u8 0,.int .u8 0,.int .u8 0,.int .u8 0,.slice none 0 0]),5,32):=by kernel_rfl
theorem agv:(Tryz.prog.info? 150).map (fun i => (i.zero,i.size,i.bytes))=some (some (.agg #[.int .u8 0,.int .u8 0,.int .u8 0]),3,3):=by kernel_rfl
def anN (n:Nat) (w:World) (e:Ending) (w':World):Prop := ∃ v ys,e = .returned (.agg #[v])∧ys.length=n∧jR w' w'.heap.size v ys∧Below w.heap.size w w'
def afU (w:World) (nb:Nat) (b:Nat):Prop:=b=nb∨b=w.heap.size+1
def af6 (w wr:World) (gO nb cap n:Nat):Prop :=
 ∃ ns,Has wr gO 49 #[.slice (some ⟨nb,0,none⟩) n cap]∧Has wr (w.heap.size+1) 49 #[.slice none 0 0]∧wr.ownsRow (w.heap.size+2) 99 5 (.slice (some ⟨nb,0,none⟩) n cap) n ns∧MX wr (afU w nb) wr.heap.size n ns∧Below w.heap.size w wr
def ah7 (w wr W:World) (gO nb cap n G q m pb gB ck cn ca cb:Nat) (ns ys:List Value):Prop :=
 Has W gO 49 #[.slice (some ⟨nb,0,none⟩) n cap]∧Has W (w.heap.size+1) 49 #[.slice none 0 0]∧Has W G 147 #[.int .u8 ck,.int .u8 cn,.int .u8 ca,.int .u8 cb] ∧
 W.ownsRow (w.heap.size+2) 99 5 (.slice (some ⟨nb,0,none⟩) n cap) n (ns.set (q*5+4) (.slice (some ⟨pb,0,none⟩) m gB))∧W.ownsRow (G+1) 150 3 (.slice (some ⟨pb,0,none⟩) m gB) m ys ∧
 (∀ p:Addr,p.block < G→p.block≠nb→W.cell? p=wr.cell? p)∧Below w.heap.size w W∧G < W.heap.size
theorem ah7.drewN {w wr W:World} {gO nb cap n G q m pb gB ck cn ca cb:Nat} {ns ys:List Value} (h:ah7 w wr W gO nb cap n G q m pb gB ck cn ca cb ns ys) (k:Nat):ah7 w wr (W.drewN k) gO nb cap n G q m pb gB ck cn ca cb ns ys :=
 ⟨h.1,h.2.1,h.2.2.1,h.2.2.2.1,h.2.2.2.2.1,h.2.2.2.2.2.1,below_drewN h.2.2.2.2.2.2.1 k,h.2.2.2.2.2.2.2⟩
theorem aiP {w wr W:World} {gO nb cap n G q m gg cp:Nat} {ns ys:List Value} {v0:Value}
  (O:Hid (Has W gO 49 #[.slice (some ⟨nb,0,none⟩) n cap])) (R:Hid (Has W (w.heap.size+1) 49 #[.slice none 0 0]))
  (HST:W.ownsRow (w.heap.size+2) 99 5 (.slice (some ⟨nb,0,none⟩) n cap) n (ns.set (q*5+4) v0)) (Xb:W.ownsRow (G+1) 150 3 (.slice (some ⟨gg,0,none⟩) m cp) m ys)
  (vO:∀ p:Addr,p.block < G→p.block≠nb→W.cell? p=wr.cell? p) (HN:Hid (MX wr (afU w nb) G n ns)) (HPU:U8L ys) (hns:ns.length=n*5) (hm:m≤46912496117077) (hq:q < n) (hw:Below w.heap.size w W)
  (hnG:nb < G∧w.heap.size+1 < G) (hnO:nb < gO) (hnR:w.heap.size+1 < nb) (hG:G < W.heap.size):af6 w (W.setCell ⟨nb,q*5+4,none⟩ (.slice (some ⟨gg,0,none⟩) m cp)) gO nb cap n:=by
 have hO2:=eF (w:=W) (g:=nb) (i:=q*5+4) (v:=.slice (some ⟨gg,0,none⟩) m cp) rfl;have h1:=(HST.stored (q*5+4) (.slice (some ⟨gg,0,none⟩) m cp)).1;rw [List.set_set] at h1;have h2:=ownsRow_setCell_below Xb (a:=⟨nb,q*5+4,none⟩) (show nb < G+1 by omega) (.slice (some ⟨gg,0,none⟩) m cp);have h3:=Xb.lt gg rfl;refine ⟨_,(f1 O hO2).out,(f1 R hO2).out,h1,?_,jS hw (by omega) _ _⟩;exact HN.out.close (W:=W.setCell ⟨nb,q*5+4,none⟩ (.slice (some ⟨gg,0,none⟩) m cp)) hns (fun b hb => by rcases hb with hb | hb <;> omega) (.inl rfl) (fun p hp hne => (cell_far W nb _ _ p hne).trans (vO p hp hne)) (by simp;omega) hq (Rd.uX h2) HPU hm (fun b hb => (show gg=b by simpa [Value.ownBlock] using hb) ▸ Nat.le_of_succ_le h3.1)
theorem agk {w wr W:World} {gO nb cap n G q m pb gB j:Nat} {z:Int} {ns ys:List Value}
  (O:Hid (Has W gO 49 #[.slice (some ⟨nb,0,none⟩) n cap])) (R:Hid (Has W (w.heap.size+1) 49 #[.slice none 0 0]))
  (HST:Hid (W.ownsRow (w.heap.size+2) 99 5 (.slice (some ⟨nb,0,none⟩) n cap) n (ns.set (q*5+4) (.slice (some ⟨pb,0,none⟩) m gB)))) (Xb:Hid (W.ownsRow (G+1) 150 3 (.slice (some ⟨pb,0,none⟩) m gB) m ys))
  (vO:Hid (∀ p:Addr,p.block < G→p.block≠nb→W.cell? p=wr.cell? p)) (HN:Hid (MX wr (afU w nb) G n ns)) (HPU:Hid (U8L ys)) (hns:ns.length=n*5) (hm:m≤46912496117077) (hq:q < n) (hw:Below w.heap.size w W)
  (hnG:nb < G∧w.heap.size+1 < G) (hnO:nb < gO) (hnR:w.heap.size+1 < nb) (hG:G < W.heap.size) (hj:j < 4) (hz:∃ a:Nat,a < 256∧z=(a:Int)):af6 w (W.setCell ⟨nb,q*5+j,none⟩ (.int .u8 z)) gO nb cap n:=by
 obtain ⟨a,ha,rfl⟩:=hz;have hO2:=eF (w:=W) (g:=nb) (i:=q*5+j) (v:=.int .u8 a) rfl;have h1:=(HST.out.stored (q*5+j) (.int .u8 a)).1;have h2:=ownsRow_setCell_below Xb.out (a:=⟨nb,q*5+j,none⟩) (show nb < G+1 by omega) (.int .u8 a);have h3:=Xb.out.lt pb rfl;refine ⟨_,(f1 O hO2).out,(f1 R hO2).out,h1,?_,jS hw (by omega) _ _⟩;refine MX.set (HN.out.close (W:=W.setCell ⟨nb,q*5+j,none⟩ (.int .u8 a)) hns (fun b hb => by rcases hb with hb | hb <;> omega) (.inl rfl) (fun p hp hne => (cell_far W nb _ _ p hne).trans (vO.out p hp hne)) (by show G≤(W.setCell _ _).heap.size;simp;omega) hq (Rd.uX h2) HPU.out hm (fun b hb => (show pb=b by simpa [Value.ownBlock] using hb) ▸ Nat.le_of_succ_le h3.1) ) (by rw [List.length_set];exact hns) hq hj ha
theorem afV {w wr W:World} {gO nb cap n G q m pb gB:Nat} {ns ys:List Value}
  (O:Hid (Has W gO 49 #[.slice (some ⟨nb,0,none⟩) n cap])) (R:Hid (Has W (w.heap.size+1) 49 #[.slice none 0 0]))
  (HST:Hid (W.ownsRow (w.heap.size+2) 99 5 (.slice (some ⟨nb,0,none⟩) n cap) n (ns.set (q*5+4) (.slice (some ⟨pb,0,none⟩) m gB)))) (Xb:Hid (W.ownsRow (G+1) 150 3 (.slice (some ⟨pb,0,none⟩) m gB) m ys))
  (vO:Hid (∀ p:Addr,p.block < G→p.block≠nb→W.cell? p=wr.cell? p)) (HN:Hid (MX wr (afU w nb) G n ns)) (HPU:Hid (U8L ys)) (hns:ns.length=n*5) (hm:m≤46912496117077) (hq:q < n) (hw:Below w.heap.size w W)
  (hnG:nb < G∧w.heap.size+1 < G) (hG:G < W.heap.size):af6 w W gO nb cap n:=by
 have h3:=Xb.out.lt pb rfl;exact ⟨_,O.out,R.out,HST.out,HN.out.close hns (fun b hb => by rcases hb with hb | hb <;> omega) (.inl rfl) vO.out (by omega) hq (Rd.uX Xb.out) HPU.out hm (fun b hb => (show pb=b by simpa [Value.ownBlock] using hb) ▸ Nat.le_of_succ_le h3.1),hw⟩
theorem aiQ {w wr W:World} {gO nb cap n G q m pb gB i:Nat} {z:Int} {ns ys:List Value}
  (O:Hid (Has W gO 49 #[.slice (some ⟨nb,0,none⟩) n cap])) (R:Hid (Has W (w.heap.size+1) 49 #[.slice none 0 0]))
  (HST:Hid (W.ownsRow (w.heap.size+2) 99 5 (.slice (some ⟨nb,0,none⟩) n cap) n (ns.set (q*5+4) (.slice (some ⟨pb,0,none⟩) m gB)))) (Xb:Hid (W.ownsRow (G+1) 150 3 (.slice (some ⟨pb,0,none⟩) m gB) m ys))
  (vO:Hid (∀ p:Addr,p.block < G→p.block≠nb→W.cell? p=wr.cell? p)) (HN:Hid (MX wr (afU w nb) G n ns)) (HPU:Hid (U8L ys)) (hns:ns.length=n*5) (hm:m≤46912496117077) (hq:q < n) (hw:Below w.heap.size w W)
  (hnG:nb < G∧w.heap.size+1 < G) (hnO:nb < gO) (hnR:w.heap.size+1 < nb) (hG:G < W.heap.size) (hgO:gO < G) (hz:∃ a:Nat,a < 256∧z=(a:Int)):af6 w (W.setCell ⟨pb,i,none⟩ (.int .u8 z)) gO nb cap n:=by
 obtain ⟨a,ha,rfl⟩:=hz;have h3:=Xb.out.lt pb rfl;have hO2:=eF (w:=W) (g:=pb) (i:=i) (v:=.int .u8 a) rfl;have h1:=ownsRow_setCell_other HST.out (a:=⟨pb,i,none⟩) (by show some nb≠some pb;intro e;injection e with e;omega) (.int .u8 a);have h2:=(Xb.out.stored i (.int .u8 a)).1;refine ⟨_,(f1 O hO2).out,(f1 R hO2).out,h1,?_,jS hw (by omega) _ _⟩;exact HN.out.close (W:=W.setCell ⟨pb,i,none⟩ (.int .u8 a)) hns (fun b hb => by rcases hb with hb | hb <;> omega) (.inl rfl) (fun p hp hne => (cell_far W pb _ _ p (by omega)).trans (vO.out p hp hne)) (by show G≤(W.setCell _ _).heap.size;simp;omega) hq (Rd.uX h2) (HPU.out.set _ ha) hm (fun b hb => (show pb=b by simpa [Value.ownBlock] using hb) ▸ Nat.le_of_succ_le h3.1)
theorem zIg {p:Prop} (h:p:=by exact ⟨C.out.cell 2,⟨C.out.cell 3,(pz.out.now)⟩⟩):p:=h
theorem zIh {p:Prop} (h:p:=by
 have hpg:=Xb.out.lt pb rfl;have KS:=hiQ (FB HST.out);have KP:=hiQ (FB Xb.out);have KX:=hiQ (acL vO.out (by omega));have pz:=hiQ (CX cP);clear cP;have CA:=hiQ (CX cA);clear cA;refine l9 (S:=(fun w' => w'.cell? ⟨G,2,none⟩=some (.int .u8 ca)∧(w'.cell? ⟨nb,q*5+1,none⟩=some (.int .u8 y1)))) (fun j => j == 10 || j == 11 || j == 12) (by kernel_rfl) ⟨acT,(CA.out.now)⟩ (fun hHeld => ?_);clear af7 acT;have mG:Below wc.heap.size wc (wc.drew):=(Below.refl _ _).drew;obtain ⟨O,R,C,KS,KP,KX,pz,CA⟩:=b8 O R C KS KP KX pz CA mG;replace hw2:=dT hw2 mG;clear mG;generalize wc.drew=yx at *;refine eH 0 (h7:=by as_aux_lemma => kernel_rfl) ?_;refine eH 1 (h7:=by as_aux_lemma => kernel_rfl) ?_;refine eH 2 (h7:=by as_aux_lemma => kernel_rfl) ?_;refine eH 3 (h7:=by as_aux_lemma => kernel_rfl) ?_;refine eH 4 (h7:=by as_aux_lemma => kernel_rfl) ?_;refine eH 5 (h7:=by as_aux_lemma => kernel_rfl) ?_;refine eH 6 (h7:=by as_aux_lemma => kernel_rfl) ?_;refine eH 7 (h7:=by as_aux_lemma => kernel_rfl) ?_;refine eH 8 (h7:=by as_aux_lemma => kernel_rfl) ?_;refine eH 9 (h7:=by as_aux_lemma => kernel_rfl) ?_;refine pG 10 fun K hK => ?_;go_simp;(try clear hHeld);refine hK.out _ _ ?_;clear hK K;refine pG 11 fun K hK => ?_;go_simp;(try clear hHeld);refine hK.out _ _ ?_;clear hK K;refine pG 12 fun K hK => ?_;have cN:=CA.out.now;have fN:=KS.out.now.frozenAt (q*5+1);go_simp;(try clear hHeld);refine hK.out _ _ ?_;clear hK K;refine akJ (by kernel_rfl) ?_ _;(try clear hHeld);clear cN fN;have hinv:=fun z (hz:∃ a:Nat,a < 256∧z=(a:Int)) => agk (j:=1) (z:=z) O R (hiQ KS.out.now) (hiQ KP.out.now) (hiQ KX.out.now) HN HPU hns hpm hqn hw2 hnG hnO (by omega) C.out.here (by omega) hz
 have acK:=hiQ hinv;clear hinv;go_wp2_with fail;go_roundw
 case rel => exact ⟨k+1,by omega,by go_num,acK.out _ (by first | exact adv _ | exact ⟨_,i4,rfl⟩ | (unfold bits;exact acS _))⟩
 case measure => simp [intOf];omega):p:=h
theorem zBy {p:Prop} (h:p:=by
 have acK:=hiQ hinv;clear hinv;go_wp2_with fail;go_roundw
 case rel => exact ⟨k+1,by omega,by go_num,acK.out _ (by first | exact adv _ | exact ⟨_,i4,rfl⟩ | (unfold bits;exact acS _))⟩
 case measure => simp [intOf];omega):p:=h
theorem zCa {p:Prop} (h:p:=by
 replace O:=hiQ O;replace R:=hiQ R;have hfin:=fun ww (hww:ww=wr.setCell ⟨w.heap.size+1,0,none⟩ (.slice (some ⟨nb,0,none⟩) xs.length cap)) => ai0 (w:=ww) (S:=afU w nb) (hww ▸ ownsRow_setCell_below hown (a:=⟨w.heap.size+1,0,none⟩) (show w.heap.size+1 < w.heap.size+2 by omega) (.slice (some ⟨nb,0,none⟩) xs.length cap)) (hnl.keep (fun p hp hs => by rw [hww];exact cell_far wr (w.heap.size+1) 0 _ p (fun e => hs (.inr e))) (by rw [hww];simp)) hcn;have HF:=hiQ hfin;clear hfin hown hnl;have agw:=O.out.e0;have iV:=R.out.e0;have rM:=R.out.free 0;go_wp2_with fail;clear agw iV rM;obtain ⟨W2,hW2⟩ : ∃ x,x=wr.setCell ⟨w.heap.size+1,0,none⟩ (.slice (some ⟨nb,0,none⟩) xs.length cap):=⟨_,rfl⟩
 rw [← hW2];obtain ⟨ys,hys,hrd⟩:=HF.out W2 hW2;have R2:=xR R hW2.symm;have hw2:=tf hw hW2.symm;exact bodyPost_ret (v:=.agg #[.slice (some ⟨nb,0,none⟩) xs.length cap]) (by simp [results,Tryz.results53,go_sem,R2.out.e0]) rfl ⟨_,ys,rfl,hys,hrd,hw2⟩):p:=h
theorem zCx {p:Prop} (h:p:=by
 have hinv:=afV O R HST Xb vO HN HPU hns hpm hqn hw2 hnG hG2;go_wp2_with fail;go_roundw
 case rel => exact ⟨k+1,by omega,by go_num,hinv⟩
 case measure => simp [intOf];omega):p:=h
theorem zEs {p:Prop} (h:p:=by
 have acK:=hiQ hinv;clear hinv hown1 hu1;go_wp2_with fail;go_roundw
 case rel => exact ⟨k+1,by omega,by go_num,acK.out⟩
 case measure => simp [intOf];omega):p:=h
theorem aiO (xs:List fJ) (cs:List Chg) (vn vl:Value) (w:World) (hn:xs.length≤4398046510976) (hp:∀ x ∈ xs,x.parts.length≤46912496117077) (hc:cs.length≤140737488351232) (hr:jR w w.heap.size vn xs) (hl:agN w w.heap.size vl cs) :
  Calls Tryz.prog 53 #[.agg #[vn],vl] w (anN xs.length w):=by
 obtain ⟨A,c,rfl,hcap⟩:=hr.form;obtain ⟨A2,c2,rfl,hcap2⟩:=hl.1.form;have HR:=hiQ hr;have HL:=hiQ hl;have HP:=hiQ hp;clear hr hl hp;go_enter Tryz.func53,Tryz.ntmps53
 go_upto_region 1 with fail;refine jg (fun wd2 hb1 D R => ?_);have hw3:=hb1;clear hb1;obtain ⟨news,hnl,hn1,hnn,hnr⟩:=ajo HR.out HP.out;replace hnr:=(hnr.below hw3).mono hw3.size;have yZ:=hiQ hn1;have HNN:=hiQ hnn;have HNR:=hiQ hnr;clear hn1 hnn hnr HR HP;have cA1:∀ o,(wd2.alloc o).cell? ⟨w.heap.size,0,none⟩=some (.slice A xs.length c):=fun o => (((Below.refl wd2.heap.size wd2).alloc (Nat.le_refl _) o).cell (p:=⟨w.heap.size,0,none⟩) D.out.here).trans D.out.e0;go_wp2_with (at_builtin;refine ac3 rfl _ _ _ rfl wd2.heap.size 99 _ 5 32 Tryz.underlying47 ak5 rfl (by decide) rfl (World.ownsRow_made wd2 #[] 0 (Nat.le_refl _) (by decide) rfl) rfl ((HNR.out.alloc (Nat.le_refl _) _).mono (by simp)) yZ.out (by simp only [maxLen];omega) (by omega) (by simp) ?_;intro nb cap w3 hown3 hg3 ak6;rw [Nat.zero_add,List.nil_append] at hown3;rw [Nat.zero_add])
 have hb3:Below wd2.heap.size wd2 w3:=((Below.refl _ wd2).alloc (Nat.le_refl _) _).grown hg3 (by simp) (fun k hk => by injection hk with hk;omega);have hown:=own_base hown3 (show w.heap.size+2≤wd2.heap.size from R.out.here);have ak7:=(HNN.out (afU w nb) (fun b hb => by have:=(hown3.lt nb rfl).1;have:=hw3.size;rcases hb with hb | hb <;> omega)).keep (w':=w3) (B':=w3.heap.size) (fun p hp _ => (hw3.trans (hb3.mono hw3.size)).cell hp) (hw3.trans (hb3.mono hw3.size)).size;have hnb:=(hown3.lt nb rfl).1;have arD:=(hown3.lt nb rfl).2;have hcn:xs.length≤cap:=by
  obtain ⟨_,_,_,e,e2,_⟩:=Rd.uX hown3;injection e with _ _ e3;omega
 have hgR:w.heap.size+1 < wd2.heap.size:=R.out.here;clear hown3 hg3 ak6 yZ HNN HNR cA1;obtain ⟨D,R⟩:=b2 D R hb3;replace hw3:=dT hw3 hb3;have OW:=hiQ (Kept.own hown);have NL:=hiQ ((show Kept (fun w' => MX w' (afU w nb) w3.heap.size xs.length news) w3 0 w3.heap.size from ⟨ak7,fun w' hk => ak7.keep (fun p hp _ => World.cell?_of_block (hk _ (Nat.zero_le _) hp)) (Nat.le_refl _),Nat.le_refl _⟩));clear hown ak7;refine aO (fun fG hb4 O => ?_);have nI:=D.out.here;have mO:=R.out.here;have kH:=OW.out.le;have oC:=NL.out.le;have sH:=hw3.size;obtain ⟨D,R,OW,NL⟩:=b4 D R OW NL hb4;replace hw3:=dT hw3 hb4;clear hb4;generalize w3.heap.size=g6 at *;obtain ⟨gO,hgO⟩ : ∃ g,g=g6:=⟨_,rfl⟩
 have OOx:=O.out;have RR:=R.out;have WWx:=hw3;have OWW:=OW.out.now;have NLL:=(NL.out.now).keep (B':=fG.heap.size) (fun _ _ _ => rfl) (Nat.le_of_lt O.out.here);have hnO:nb < g6:=arD;rw [← hgO] at OOx hnO;rw [← hgO];clear O R D OW NL hgO;go_upto_region 3 with fail;go_loopw [6] (fun i wr => ∃ k:Nat,k≤cs.length∧i = .int .i64 k∧af6 w wr gO nb cap xs.length) (fun i _ => cs.length - (intOf i).toNat)
 case atStart => exact ⟨0,by omega,rfl,_,OOx,RR,OWW,NLL,WWx⟩
 case round =>
  clear OOx RR OWW NLL WWx hb3 hnl;obtain ⟨k,hk,rfl,ns,O,R,hown,hnl,hw⟩:=hrel;by_cases hlt:k < cs.length
  ·
   by_cases h0:0 < xs.length
   ·
    have hlt1:(k:Int) < cs.length:=by omega
    have h01:(0:Int) < xs.length:=by omega
    obtain ⟨lb,lo,rfl,hlb,hle⟩:=HL.out.elem (by omega);obtain ⟨⟨i1,i2,i3,i4⟩,m0,m1,m2,m3⟩:=hle k hlt;generalize cs[k]=cg at *;obtain ⟨ck,cn,ca,cb⟩:=cg;simp only at i1 i2 i3 i4 m0 m1 m2 m3;have n0:=(hw.cell (p:=⟨lb,_,none⟩) hlb).trans m0;have n1:=(hw.cell (p:=⟨lb,_,none⟩) hlb).trans m1;have n2:=(hw.cell (p:=⟨lb,_,none⟩) hlb).trans m2;have n3:=(hw.cell (p:=⟨lb,_,none⟩) hlb).trans m3;clear m0 m1 m2 m3 hle HL;have anR:=Has.here O;replace O:=hiQ O;replace R:=hiQ R;have agw:=O.out.e0;go_upto_region 5 with fail;clear agw;go_upto_region 6 with fail;clear n0 n1 n2 n3;refine aO (fun dQ fV C => ?_);obtain ⟨O,R⟩:=b2 O R fV;have acJ:=fV;clear fV;have e6:IntKind.i64.wrap (cn:Int)=cn:=by rw [IntWalk.i64_in _ (by omega)]
    obtain ⟨q,hq,hqn⟩ : ∃ q:Nat,(cn:Int).tmod xs.length=(q:Int)∧q < xs.length:=⟨cn % xs.length,by rw [Int.tmod_eq_emod_of_nonneg (by omega)];push_cast;rfl,Nat.mod_lt _ h0⟩
    have hqi:(q:Int) < xs.length:=by omega
    have agw:=O.out.e0;have arE:=C.out.e1;go_quiet (fail)
    clear agw arE;have o7:Below dQ.heap.size dQ (dQ.drewN nq):=below_drewN (Below.refl _ _) nq;obtain ⟨O,R,C⟩:=b3 O R C o7;replace acJ:=dT acJ o7;clear o7;generalize dQ.drewN nq=yN at *;have hns:=hown.1;obtain ⟨x,vp,v0,v1,v2,v3,v4,hna,hpm⟩:=hnl.at_ hqn;obtain ⟨P0,pc,rfl,hpc⟩:=hna.parts.form;have ah8:=(hown.lt nb rfl).2;have c4:=((hown.cellAt (q*5+4) (by omega)).trans v4)
    have hPR:=(hna.parts.below acJ).mono acJ.size;have hPU:=aik _ hna.ins;have hPL:=hna.parts.1;have hints:=hna.ints;clear hna;generalize x.parts.length=m at *;generalize x.parts.flatMap aav=ys at *;generalize x.kind=y0 at *;generalize x.a=y1 at *;generalize x.b=y2 at *;generalize x.c=y3 at *;have cN4:∀ o,(yN.alloc o).cell? ⟨nb,q*5+4,none⟩=some (.slice P0 m pc):=fun o => (((acJ.trans ((Below.refl yN.heap.size yN).alloc (Nat.le_refl _) o |>.mono acJ.size)).cell (p:=⟨nb,q*5+4,none⟩) ah8)).trans c4;have HC4:=hiQ ((acJ.cell (p:=⟨nb,q*5+4,none⟩) ah8).trans c4);have HN:=hiQ hnl;have HW:=hiQ hown;have HPR:=hiQ hPR;have HPU:=hiQ hPU;have HV:=hiQ (And.intro v1 (And.intro v2 v3));have hOO:=O.out.here;have hCW:=C.out.here;clear hnl hown hPR hPU v0 v1 v2 v3 v4 c4;go_upto_region 9 with (at_builtin;refine ac3 rfl _ _ _ rfl yN.heap.size 150 _ 3 3 Tryz.underlying97 agv rfl (by decide) rfl (World.ownsRow_made yN #[] 0 (Nat.le_refl _) (by decide) rfl) rfl ((HPR.out.alloc (Nat.le_refl _) _).mono (by simp)) HPU.out.one (by simp only [maxLen];omega) (by omega) (by simp) ?_;intro pb gB w3 hown3 hg3 ak6;rw [Nat.zero_add,List.nil_append] at hown3;rw [Nat.zero_add];have hb3:Below yN.heap.size yN w3:=((Below.refl _ yN).alloc (Nat.le_refl _) _).grown hg3 (by simp) (fun k hk => by injection hk with hk;omega);have HW3:=own_below HW.out (acJ.trans (hb3.mono acJ.size));have f4:=HW3.frozenAt (q*5+4);have c4:w3.cell? ⟨nb,q*5+4,none⟩=some (.slice P0 m pc):=((hb3.cell (p:=⟨nb,q*5+4,none⟩) (Nat.lt_of_lt_of_le ah8 acJ.size)).trans HC4.out))
    obtain ⟨vPx,hvP⟩ : ∃ v:Value,v = .slice (some ⟨pb,0,none⟩) m gB:=⟨_,rfl⟩
    have hpb:=hown3.lt pb rfl;have hWr:=acJ.size;have ak8:=acJ.trans (hb3.mono acJ.size);have hst:=HW3.stored (q*5+4) (.slice (some ⟨pb,0,none⟩) m gB);have hpo:=ownsRow_setCell_below (own_base hown3 (show wr.heap.size+1≤_ from hCW)) (a:=⟨nb,q*5+4,none⟩) (show nb < wr.heap.size+1 by omega) (.slice (some ⟨pb,0,none⟩) m gB);have hO2:=eF (w:=w3) (g:=nb) (i:=q*5+4) (v:=.slice (some ⟨pb,0,none⟩) m gB) rfl;obtain ⟨O,R,C⟩:=b3 O R C hb3;replace acJ:=dT acJ hb3;replace O:=f1 O hO2;replace R:=f1 R hO2;replace C:=f1 C hO2;have hkx:∀ p:Addr,p.block < wr.heap.size→p.block≠nb→(w3.setCell ⟨nb,q*5+4,none⟩ (.slice (some ⟨pb,0,none⟩) m gB)).cell? p=wr.cell? p:=fun p h1 h2 => (cell_far _ _ _ _ p h2).trans (ak8.cell h1);have anS:=anR;have hw2:Below w.heap.size w (w3.setCell ⟨nb,q*5+4,none⟩ (.slice (some ⟨pb,0,none⟩) m gB)):=jS (hw.trans (ak8.mono hw.size)) (by omega) _ _;have hG2:wr.heap.size < (w3.setCell ⟨nb,q*5+4,none⟩ (.slice (some ⟨pb,0,none⟩) m gB)).heap.size:=C.out.here;have HST:=hiQ hst.1;have Xb:=hiQ hpo;have vO:=hiQ hkx;have atn:wr.heap.size < pb:=by omega
    clear hst hpo hkx hO2 hown3 hg3 ak6 HW3 f4 c4 HW HPR HC4 cN4 hb3 hpb ak8;generalize w3.setCell ⟨nb,q*5+4,none⟩ (.slice (some ⟨pb,0,none⟩) m gB)=W2 at *;have anT:gO < wr.heap.size:=anS;have hnG:nb < wr.heap.size∧w.heap.size+1 < wr.heap.size:=⟨ah8,by omega⟩
    clear hOO hCW ah8 acJ hWr hvP anS anR;generalize wr.heap.size=G at *;have cP:=(HST.out.cellAt (q*5+4) (by omega)).trans (by rw [List.getElem?_set_self (by omega)]);have hB:=hiQ (show ah7 w wr W2 gO nb cap xs.length G q m pb gB ck cn ca cb ns ys from ⟨O.out,R.out,C.out,HST.out,Xb.out,vO.out,hw2,hG2⟩);go_upto_if 55 with fail
    go_cut [9] from 15 to 212 (fun kv wx => ∃ kk:Nat,kv = .int .i64 kk∧(0 < m→kk < m)∧ah7 w wr wx gO nb cap xs.length G q m pb gB ck cn ca cb ns ys)
    case first =>
     have acT:=C.out.e2;clear O R C HST Xb vO HN HPU HV hw2 hG2;by_cases hm0:0 < m
     ·
      have hm1:(0:Int) < m:=by omega
      go_upto_region 10 with fail;obtain ⟨kk,hkk,hkm⟩ : ∃ kk:Nat,(ca:Int).tmod m=(kk:Int)∧kk < m:=⟨ca % m,by rw [Int.tmod_eq_emod_of_nonneg (by omega)];push_cast;rfl,Nat.mod_lt _ hm0⟩
      have e10:IntKind.i64.wrap (ca:Int)=ca:=by rw [IntWalk.i64_in _ (by omega)]
      go_quiet (fail)
      go_wp2_with fail;go_meet
      exact ⟨kk,rfl,fun _ => hkm,hB.out.drewN nq⟩
     have hm1:¬ (0:Int) < m:=by omega
     go_wp2_with fail;go_meet
     exact ⟨0,rfl,fun h => absurd h hm0,hB.out⟩
    case rest =>
     clear O R C HST Xb vO cP hw2 hG2 hB;obtain ⟨kk,rfl,hkk,O,R,C,hst,hpo,hkx,hw2,hG2⟩:=hcut;have HST:=hiQ hst;have Xb:=hiQ hpo;have vO:=hiQ hkx;have HKK:=hiQ hkk;clear hst hpo hkx hkk;replace O:=hiQ O;replace R:=hiQ R;replace C:=hiQ C;have cP:=(HST.out.cellAt (q*5+4) (by omega)).trans (by rw [List.getElem?_set_self (by omega)]);obtain ⟨r,hr,hr8⟩ : ∃ r:Nat,(ck:Int).tmod 8=(r:Int)∧r < 8:=⟨ck % 8,by rw [Int.tmod_eq_emod_of_nonneg (by omega)];push_cast;rfl,Nat.mod_lt _ (by omega)⟩
     have hrc:r=0∨r=1∨r=2∨r=3∨r=4∨r=5∨r=6∨r=7:=by omega
     have af7:=C.out.e0;rcases hrc with rfl | rfl | rfl | rfl | rfl | rfl | rfl | rfl
     ·
      skip
      as_aux_lemma =>
        have acT:=C.out.e2;have cA:=((HST.out.cellAt (q*5+1) (by omega)).trans (by rw [List.getElem?_set_ne (by omega)])).trans HV.out.1;go_upto_region 15 with fail;exact zIh
     ·
      skip
      as_aux_lemma =>
        have adb:=C.out.e3;have cA:=((HST.out.cellAt (q*5+2) (by omega)).trans (by rw [List.getElem?_set_ne (by omega)])).trans HV.out.2.1;go_upto_region 17 with fail;have hpg:=Xb.out.lt pb rfl;have KS:=hiQ (FB HST.out);have KP:=hiQ (FB Xb.out);have KX:=hiQ (acL vO.out (by omega));have pz:=hiQ (CX cP);clear cP;have CA:=hiQ (CX cA);clear cA;refine l9 (S:=(fun w' => w'.cell? ⟨G,3,none⟩=some (.int .u8 cb)∧(w'.cell? ⟨nb,q*5+2,none⟩=some (.int .u8 y2)))) (fun j => j == 10 || j == 11 || j == 12) (by kernel_rfl) ⟨adb,(CA.out.now)⟩ (fun hHeld => ?_);clear af7 adb;have mG:Below wc.heap.size wc (wc.drew):=(Below.refl _ _).drew;obtain ⟨O,R,C,KS,KP,KX,pz,CA⟩:=b8 O R C KS KP KX pz CA mG;replace hw2:=dT hw2 mG;clear mG;generalize wc.drew=yx at *;refine eH 0 (h7:=by as_aux_lemma => kernel_rfl) ?_;refine eH 1 (h7:=by as_aux_lemma => kernel_rfl) ?_;refine eH 2 (h7:=by as_aux_lemma => kernel_rfl) ?_;refine eH 3 (h7:=by as_aux_lemma => kernel_rfl) ?_;refine eH 4 (h7:=by as_aux_lemma => kernel_rfl) ?_;refine eH 5 (h7:=by as_aux_lemma => kernel_rfl) ?_;refine eH 6 (h7:=by as_aux_lemma => kernel_rfl) ?_;refine eH 7 (h7:=by as_aux_lemma => kernel_rfl) ?_;refine eH 8 (h7:=by as_aux_lemma => kernel_rfl) ?_;refine eH 9 (h7:=by as_aux_lemma => kernel_rfl) ?_;refine pG 10 fun K hK => ?_;go_simp;(try clear hHeld);refine hK.out _ _ ?_;clear hK K;refine pG 11 fun K hK => ?_;go_simp;(try clear hHeld);refine hK.out _ _ ?_;clear hK K;refine pG 12 fun K hK => ?_;have cN:=CA.out.now;have fN:=KS.out.now.frozenAt (q*5+2)
        go_simp;(try clear hHeld);refine hK.out _ _ ?_;clear hK K;refine akJ (by kernel_rfl) ?_ _;(try clear hHeld);clear cN fN;have hinv:=fun z (hz:∃ a:Nat,a < 256∧z=(a:Int)) => agk (j:=2) (z:=z) O R (hiQ KS.out.now) (hiQ KP.out.now) (hiQ KX.out.now) HN HPU hns hpm hqn hw2 hnG hnO (by omega) C.out.here (by omega) hz;exact zBy
     ·
      skip
      obtain ⟨sh,hsh,hs6⟩ : ∃ sh:Nat,(ca:Int).tmod 6=(sh:Int)∧sh < 6:=⟨ca % 6,by rw [Int.tmod_eq_emod_of_nonneg (by omega)];push_cast;rfl,Nat.mod_lt _ (by omega)⟩
      as_aux_lemma =>
        have acT:=C.out.e2;have cA:=((HST.out.cellAt (q*5+1) (by omega)).trans (by rw [List.getElem?_set_ne (by omega)])).trans HV.out.1;go_upto_region 19 with fail;exact zIh
     ·
      skip
      as_aux_lemma =>
        have acT:=C.out.e2;have cA:=((HST.out.cellAt (q*5+3) (by omega)).trans (by rw [List.getElem?_set_ne (by omega)])).trans HV.out.2.2;go_upto_region 21 with fail;have hpg:=Xb.out.lt pb rfl;have KS:=hiQ (FB HST.out);have KP:=hiQ (FB Xb.out);have KX:=hiQ (acL vO.out (by omega));have pz:=hiQ (CX cP);clear cP;have CA:=hiQ (CX cA);clear cA;refine l9 (S:=(fun w' => w'.cell? ⟨G,2,none⟩=some (.int .u8 ca)∧(w'.cell? ⟨nb,q*5+3,none⟩=some (.int .u8 y3)))) (fun j => j == 8 || j == 9 || j == 10) (by kernel_rfl) ⟨acT,(CA.out.now)⟩ (fun hHeld => ?_);clear af7 acT;have mG:Below wc.heap.size wc (wc.drew):=(Below.refl _ _).drew;obtain ⟨O,R,C,KS,KP,KX,pz,CA⟩:=b8 O R C KS KP KX pz CA mG;replace hw2:=dT hw2 mG;clear mG;generalize wc.drew=yx at *;refine eH 0 (h7:=by as_aux_lemma => kernel_rfl) ?_;refine eH 1 (h7:=by as_aux_lemma => kernel_rfl) ?_;refine eH 2 (h7:=by as_aux_lemma => kernel_rfl) ?_;refine eH 3 (h7:=by as_aux_lemma => kernel_rfl) ?_;refine eH 4 (h7:=by as_aux_lemma => kernel_rfl) ?_;refine eH 5 (h7:=by as_aux_lemma => kernel_rfl) ?_;refine eH 6 (h7:=by as_aux_lemma => kernel_rfl) ?_;refine eH 7 (h7:=by as_aux_lemma => kernel_rfl) ?_;refine pG 8 fun K hK => ?_;go_simp;(try clear hHeld);refine hK.out _ _ ?_;clear hK K;refine pG 9 fun K hK => ?_;go_simp;(try clear hHeld);refine hK.out _ _ ?_;clear hK K;refine pG 10 fun K hK => ?_;have cN:=CA.out.now;have fN:=KS.out.now.frozenAt (q*5+3);go_simp;(try clear hHeld);refine hK.out _ _ ?_;clear hK K;refine akJ (by kernel_rfl) ?_ _;(try clear hHeld)
        clear cN fN;have hinv:=fun z (hz:∃ a:Nat,a < 256∧z=(a:Int)) => agk (j:=3) (z:=z) O R (hiQ KS.out.now) (hiQ KP.out.now) (hiQ KX.out.now) HN HPU hns hpm hqn hw2 hnG hnO (by omega) C.out.here (by omega) hz;exact zBy
     ·
      by_cases hm8:m < 8
      ·
       have arF:(m:Int) < 8:=by omega
       as_aux_lemma =>
         have hpg:=Xb.out.lt pb rfl;have KS:=hiQ (FB HST.out);have KP:=hiQ (FB Xb.out);have KX:=hiQ (acL vO.out (by omega));have pz:=hiQ (CX cP);clear cP;have cP:=pz.out.now;go_upto_region 24 with fail;clear cP;have acT:=C.out.e2;have adb:=C.out.e3;refine l9 (S:=(fun w' => w'.cell? ⟨G,2,none⟩=some (.int .u8 ca)∧w'.cell? ⟨G,3,none⟩=some (.int .u8 cb)∧(w'.cell? ⟨nb,q*5+4,none⟩=some (.slice (some ⟨pb,0,none⟩) m gB)))) (fun j => j == 15 || j == 16 || j == 17) (by kernel_rfl) ⟨acT,adb,(pz.out.now)⟩ (fun hHeld => ?_);clear af7 acT adb;have mG:Below wc.heap.size wc (wc.drew):=(Below.refl _ _).drew;obtain ⟨O,R,C,KS,KP,KX,pz⟩:=b7 O R C KS KP KX pz mG;replace hw2:=dT hw2 mG;clear mG;generalize wc.drew=yx at *;refine eH 0 (h7:=by as_aux_lemma => kernel_rfl) ?_;refine eH 1 (h7:=by as_aux_lemma => kernel_rfl) ?_;refine eH 2 (h7:=by as_aux_lemma => kernel_rfl) ?_;refine eH 3 (h7:=by as_aux_lemma => kernel_rfl) ?_;refine eH 4 (h7:=by as_aux_lemma => kernel_rfl) ?_;refine eH 5 (h7:=by as_aux_lemma => kernel_rfl) ?_;refine eH 6 (h7:=by as_aux_lemma => kernel_rfl) ?_;refine eH 7 (h7:=by as_aux_lemma => kernel_rfl) ?_;refine eH 8 (h7:=by as_aux_lemma => kernel_rfl) ?_;refine eH 9 (h7:=by as_aux_lemma => kernel_rfl) ?_;refine eH 10 (h7:=by as_aux_lemma => kernel_rfl) ?_;refine eH 11 (h7:=by as_aux_lemma => kernel_rfl) ?_;refine eH 12 (h7:=by as_aux_lemma => kernel_rfl) ?_;refine gJ 13 fun K hK => ?_;go_simp;refine aO (fun yO aln L => ?_);have Dw:=O.out.here;have Es:=R.out.here;have sJ:=C.out.here
         have uP:=KS.out.le;have sN:=KP.out.le;have uQ:=KX.out.le;have sK:=pz.out.le;have uO:=hw2.size;obtain ⟨O,R,C,KS,KP,KX,pz⟩:=b7 O R C KS KP KX pz aln;replace hw2:=dT hw2 aln;clear aln;generalize yx.heap.size=g21 at *;(try clear hHeld);refine hK.out _ _ zIg (fun hHeld => ?_);clear hK K;refine gJ 14 fun K hK => ?_;have hCh:=C.out.here;refine adw (by rfl) _ _ _ (by rfl) (G+1) 150 _ 3 3 Tryz.underlying97 agv rfl (by decide) (by rfl) KP.out.now (by rfl) (anU L.out) (by simp [Value.oneCell']) (by simp only [maxLen];omega) (by omega) (by omega) ?_;intro gg cp w1 hown1 hgr hat;have hb4:Below (G+1) yO w1:=(Below.refl (G+1) yO).grown hgr (by omega) (fun k hk => by injection hk with hk;omega);clear L KP;replace O:=hiQ (O.out.below hb4 (show gO < G+1 by omega));replace R:=hiQ (R.out.below hb4 (show w.heap.size+1 < G+1 by omega));replace C:=hiQ (C.out.below hb4 (show G < G+1 by omega));replace KS:=hiQ (KS.out.iJ hb4 (show nb+1≤G+1 by omega));replace KX:=hiQ (KX.out.iJ hb4 (show G≤G+1 by omega));replace pz:=hiQ (pz.out.iJ hb4 (show nb+1≤G+1 by omega));replace hw2:=hw2.trans (hb4.mono (show w.heap.size≤G+1 by omega));clear hgr hat hb4;(try clear hHeld);refine hK.out _ _ zIg (fun hHeld => ?_);clear hK K;refine pG 15 fun K hK => ?_;go_simp;(try clear hHeld);refine hK.out _ _ ?_;clear hK K;refine pG 16 fun K hK => ?_;go_simp;(try clear hHeld);refine hK.out _ _ ?_;clear hK K;refine pG 17 fun K hK => ?_;have cN:=pz.out.now;have fN:=KS.out.now.frozenAt (q*5+4);go_simp;(try clear hHeld);refine hK.out _ _ ?_
         clear hK K;refine akJ (by kernel_rfl) ?_ _;(try clear hHeld);clear cN fN;have hu1:U8L _:=HPU.out.app (ys:=[.int .u8 (ca:Int),.int .u8 (cb:Int),.int .u8 (IntKind.u8.wrap ((ca:Int) / 12))]) (fun u hu => by
          simp only [List.mem_cons,List.not_mem_nil,or_false] at hu;rcases hu with rfl | rfl | rfl
          · exact ⟨_,i3,rfl⟩
          · exact ⟨_,i4,rfl⟩
          obtain ⟨a,ha,he⟩:=acS ((ca:Int) / 12);exact ⟨a,ha,by rw [he]⟩)
         have hinv:=aiP (m:=m+1) O R KS.out.now hown1 KX.out.now HN hu1 hns (by omega) hqn hw2 hnG hnO (by omega) C.out.here;exact zEs
      have arF:¬ (m:Int) < 8:=by omega
      as_aux_lemma =>
        exact zCx
     ·
      by_cases hm0:0 < m
      ·
       have hm1:(0:Int) < m:=by omega
       have hkm:=HKK.out hm0
       as_aux_lemma =>
         have hpg:=Xb.out.lt pb rfl;have hmp:m≤gB:=by
          obtain ⟨_,_,_,e,e2,_⟩:=Rd.uX Xb.out;injection e with _ _ e3;omega
         have hs1:(kk:Int)≤gB:=by omega
         have hs2:(0:Int)≤kk:=by omega
         obtain ⟨k1,hk1,ek1⟩ : ∃ k1:Nat,IntKind.i64.wrap ((kk:Int)+1)=(k1:Int)∧Hid (k1=kk+1):=⟨kk+1,by rw [IntWalk.i64_in _ (by omega)];push_cast;rfl,hiQ rfl⟩
         have hs3:(0:Int)≤k1∧(k1:Int)≤m:=by have:=ek1.out;omega
         have KS:=hiQ (FB HST.out);have KP:=hiQ (FB Xb.out);have KX:=hiQ (acL vO.out (by omega));have pz:=hiQ (CX cP);clear cP;have cP:=pz.out.now;go_upto_region 27 with fail;clear cP;refine l9 (S:=(fun w' => (w'.cell? ⟨nb,q*5+4,none⟩=some (.slice (some ⟨pb,0,none⟩) m gB)))) (fun j => j == 15 || j == 16 || j == 17) (by kernel_rfl) (pz.out.now) (fun hHeld => ?_);clear af7;have mG:Below wc.heap.size wc (wc.drew):=(Below.refl _ _).drew;obtain ⟨O,R,C,KS,KP,KX,pz⟩:=b7 O R C KS KP KX pz mG;replace hw2:=dT hw2 mG;clear mG;generalize wc.drew=yx at *;refine eH 0 (h7:=by as_aux_lemma => kernel_rfl) ?_;refine eH 1 (h7:=by as_aux_lemma => kernel_rfl) ?_;refine eH 2 (h7:=by as_aux_lemma => kernel_rfl) ?_;refine eH 3 (h7:=by as_aux_lemma => kernel_rfl) ?_;refine eH 4 (h7:=by as_aux_lemma => kernel_rfl) ?_;refine eH 5 (h7:=by as_aux_lemma => kernel_rfl) ?_;refine eH 6 (h7:=by as_aux_lemma => kernel_rfl) ?_;refine eH 7 (h7:=by as_aux_lemma => kernel_rfl) ?_;refine eH 8 (h7:=by as_aux_lemma => kernel_rfl) ?_;refine eH 9 (h7:=by as_aux_lemma => kernel_rfl) ?_;refine eH 10 (h7:=by as_aux_lemma => kernel_rfl) ?_;refine eH 11 (h7:=by as_aux_lemma => kernel_rfl) ?_;refine eH 12 (h7:=by as_aux_lemma => kernel_rfl) ?_;refine eH 13 (h7:=by as_aux_lemma => kernel_rfl) ?_;refine gJ 14 fun K hK => ?_;have hCh:=C.out.here;have hke:=ek1.out;refine adw (by rfl) _ _ _ (by rfl) (G+1) 150 _ 3 3 Tryz.underlying97 agv rfl (by decide) (by rfl) (ajp KP.out.now (show kk≤m by omega)) (by rfl) (ajq KP.out.now (show k1≤m by omega) (by omega) (by omega)) ((HPU.out.drop _).one) (by simp only [maxLen];omega) (by omega) (by omega) ?_
         have hmk:kk+(m - k1)≤46912496117077:=by omega
         clear hke;intro gg cp w1 hown1 hgr hat;have hb4:Below (G+1) yx w1:=(Below.refl (G+1) yx).grown hgr (by omega) (fun k hk => by injection hk with hk;omega);clear KP;replace O:=hiQ (O.out.below hb4 (show gO < G+1 by omega));replace R:=hiQ (R.out.below hb4 (show w.heap.size+1 < G+1 by omega));replace C:=hiQ (C.out.below hb4 (show G < G+1 by omega));replace KS:=hiQ (KS.out.iJ hb4 (show nb+1≤G+1 by omega));replace KX:=hiQ (KX.out.iJ hb4 (show G≤G+1 by omega));replace pz:=hiQ (pz.out.iJ hb4 (show nb+1≤G+1 by omega));replace hw2:=hw2.trans (hb4.mono (show w.heap.size≤G+1 by omega));clear hgr hat hb4;(try clear hHeld);refine hK.out _ _ ((pz.out.now)) (fun hHeld => ?_);clear hK K;refine pG 15 fun K hK => ?_;go_simp;(try clear hHeld);refine hK.out _ _ ?_;clear hK K;refine pG 16 fun K hK => ?_;go_simp;(try clear hHeld);refine hK.out _ _ ?_;clear hK K;refine pG 17 fun K hK => ?_;have cN:=pz.out.now;have fN:=KS.out.now.frozenAt (q*5+4);go_simp;(try clear hHeld);refine hK.out _ _ ?_;clear hK K;refine akJ (by kernel_rfl) ?_ _;(try clear hHeld);clear cN fN;have hu1:U8L _:=(HPU.out.take (kk*3)).app (HPU.out.drop (k1*3));have hinv:=aiP (m:=kk+(m - k1)) O R KS.out.now hown1 KX.out.now HN hu1 hns hmk hqn hw2 hnG hnO (by omega) C.out.here;exact zEs
      have hm1:¬ (0:Int) < m:=by omega
      as_aux_lemma =>
        exact zCx
     ·
      by_cases hm0:0 < m
      ·
       have hm1:(0:Int) < m:=by omega
       have hkm:=HKK.out hm0;obtain ⟨pzx,hpz,hpk⟩:=HPU.out.at_ (k:=kk*3+2) (by omega)
       as_aux_lemma =>
         have hcp:=(Xb.out.cellAt (kk*3+2) (by omega)).trans hpk;have adb:=C.out.e3;go_upto_region 30 with fail;have hpg:=Xb.out.lt pb rfl;have KS:=hiQ (FB HST.out);have KP:=hiQ (FB Xb.out);have KX:=hiQ (acL vO.out (by omega));have pz:=hiQ (CX cP);clear cP;have CA:=hiQ (CX hcp);clear hcp;refine l9 (S:=(fun w' => w'.cell? ⟨G,3,none⟩=some (.int .u8 cb)∧(w'.cell? ⟨nb,q*5+4,none⟩=some (.slice (some ⟨pb,0,none⟩) m gB))∧(w'.cell? ⟨pb,kk*3+2,none⟩=some (.int .u8 pzx)))) (fun j => j == 7 || j == 8 || j == 9) (by kernel_rfl) ⟨adb,(pz.out.now),(CA.out.now)⟩ (fun hHeld => ?_);clear af7 adb;have mG:Below wc.heap.size wc (wc.drew):=(Below.refl _ _).drew;obtain ⟨O,R,C,KS,KP,KX,pz,CA⟩:=b8 O R C KS KP KX pz CA mG;replace hw2:=dT hw2 mG;clear mG;generalize wc.drew=yx at *;refine eH 0 (h7:=by as_aux_lemma => kernel_rfl) ?_;refine eH 1 (h7:=by as_aux_lemma => kernel_rfl) ?_;refine eH 2 (h7:=by as_aux_lemma => kernel_rfl) ?_;refine eH 3 (h7:=by as_aux_lemma => kernel_rfl) ?_;refine eH 4 (h7:=by as_aux_lemma => kernel_rfl) ?_;refine eH 5 (h7:=by as_aux_lemma => kernel_rfl) ?_;refine eH 6 (h7:=by as_aux_lemma => kernel_rfl) ?_;refine pG 7 fun K hK => ?_;go_simp;(try clear hHeld);refine hK.out _ _ ?_;clear hK K;refine pG 8 fun K hK => ?_;go_simp;(try clear hHeld);refine hK.out _ _ ?_;clear hK K;refine pG 9 fun K hK => ?_;have cN:=CA.out.now;have fN:=KP.out.now.frozenAt (kk*3+2);go_simp;(try clear hHeld);refine hK.out _ _ ?_;clear hK K;refine akJ (by kernel_rfl) ?_ _;(try clear hHeld);clear cN fN;have hinv:=fun z (hz:∃ a:Nat,a < 256∧z=(a:Int)) => aiQ (i:=kk*3+2) (z:=z) O R (hiQ KS.out.now) (hiQ KP.out.now) (hiQ KX.out.now) HN HPU hns hpm hqn hw2 hnG hnO (by omega) C.out.here anT hz
         exact zBy
      have hm1:¬ (0:Int) < m:=by omega
      as_aux_lemma =>
        exact zCx
     by_cases hm0:0 < m
     ·
      have hm1:(0:Int) < m:=by omega
      have hkm:=HKK.out hm0;obtain ⟨pzx,hpz,hpk⟩:=HPU.out.at_ (k:=kk*3+1) (by omega)
      as_aux_lemma =>
        have hcp:=(Xb.out.cellAt (kk*3+1) (by omega)).trans hpk;have adb:=C.out.e3;go_upto_region 13 with fail;have hpg:=Xb.out.lt pb rfl;have KS:=hiQ (FB HST.out);have KP:=hiQ (FB Xb.out);have KX:=hiQ (acL vO.out (by omega));have pz:=hiQ (CX cP);clear cP;have CA:=hiQ (CX hcp);clear hcp;refine l9 (S:=(fun w' => w'.cell? ⟨G,3,none⟩=some (.int .u8 cb)∧(w'.cell? ⟨nb,q*5+4,none⟩=some (.slice (some ⟨pb,0,none⟩) m gB))∧(w'.cell? ⟨pb,kk*3+1,none⟩=some (.int .u8 pzx)))) (fun j => j == 16 || j == 17 || j == 18) (by kernel_rfl) ⟨adb,(pz.out.now),(CA.out.now)⟩ (fun hHeld => ?_);clear af7 adb;have mG:Below wc.heap.size wc (wc.drew):=(Below.refl _ _).drew;obtain ⟨O,R,C,KS,KP,KX,pz,CA⟩:=b8 O R C KS KP KX pz CA mG;replace hw2:=dT hw2 mG;clear mG;generalize wc.drew=yx at *;refine eH 0 (h7:=by as_aux_lemma => kernel_rfl) ?_;refine eH 1 (h7:=by as_aux_lemma => kernel_rfl) ?_;refine eH 2 (h7:=by as_aux_lemma => kernel_rfl) ?_;refine eH 3 (h7:=by as_aux_lemma => kernel_rfl) ?_;refine eH 4 (h7:=by as_aux_lemma => kernel_rfl) ?_;refine eH 5 (h7:=by as_aux_lemma => kernel_rfl) ?_;refine eH 6 (h7:=by as_aux_lemma => kernel_rfl) ?_;refine eH 7 (h7:=by as_aux_lemma => kernel_rfl) ?_;refine eH 8 (h7:=by as_aux_lemma => kernel_rfl) ?_;refine eH 9 (h7:=by as_aux_lemma => kernel_rfl) ?_;refine eH 10 (h7:=by as_aux_lemma => kernel_rfl) ?_;refine eH 11 (h7:=by as_aux_lemma => kernel_rfl) ?_;refine eH 12 (h7:=by as_aux_lemma => kernel_rfl) ?_;refine eH 13 (h7:=by as_aux_lemma => kernel_rfl) ?_;refine eH 14 (h7:=by as_aux_lemma => kernel_rfl) ?_
        refine eH 15 (h7:=by as_aux_lemma => kernel_rfl) ?_;refine pG 16 fun K hK => ?_;go_simp;(try clear hHeld);refine hK.out _ _ ?_;clear hK K;refine pG 17 fun K hK => ?_;go_simp;(try clear hHeld);refine hK.out _ _ ?_;clear hK K;refine pG 18 fun K hK => ?_;have cN:=CA.out.now;have fN:=KP.out.now.frozenAt (kk*3+1);go_simp;(try clear hHeld);refine hK.out _ _ ?_;clear hK K;refine akJ (by kernel_rfl) ?_ _;(try clear hHeld);clear cN fN;have hinv:=fun z (hz:∃ a:Nat,a < 256∧z=(a:Int)) => aiQ (i:=kk*3+1) (z:=z) O R (hiQ KS.out.now) (hiQ KP.out.now) (hiQ KX.out.now) HN HPU hns hpm hqn hw2 hnG hnO (by omega) C.out.here anT hz;exact zBy
     have hm1:¬ (0:Int) < m:=by omega
     as_aux_lemma =>
       exact zCx
   have hlt1:(k:Int) < cs.length:=by omega
   have h01:¬ (0:Int) < xs.length:=by omega
   as_aux_lemma =>
     exact zCa
  have hlt1:¬ (k:Int) < cs.length:=by omega
  as_aux_lemma =>
    exact zCa
end Go.Proofs.YtlamhkffnlgofaaGreatDoor
