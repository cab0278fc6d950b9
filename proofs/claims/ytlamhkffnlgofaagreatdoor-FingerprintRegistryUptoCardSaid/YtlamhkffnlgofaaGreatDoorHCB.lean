/- What canon.relation computes: the greatest relation of two schemas. What canon.relation computes: the greatest relation of two schemas. No condition. -/
import Derived.Test.YtlamhkffnlgofaaGreatDoorAlk
import Derived.Deep.LoopGhost
set_option maxHeartbeats 8000000
set_option maxRecDepth 100000
namespace Go.Proofs.YtlamhkffnlgofaaGreatDoor
open Go.ChangeShapes Go.WideShapes Go.ChangeAt Go.RowKit
def relE (M:Tab) (u v:Int × Int):Bool:=M.at_ u.2.toNat v.2.toNat
theorem awP (M:Tab) (x y:ay) (h:(bn x).length=(bn y).length):eqL (relE M) (bn x) (bn y)=aoX M (outs x) (outs y):=by
 unfold eqL aoX outs;rw [decide_eq_true h,Bool.true_and,List.zip_map,List.all_map]
 rfl
theorem asn {w:World} {b o:Nat} {l:List (Int × Int)} (hcell:∀ j u,(LY l)[j]?=some u→w.cell? ⟨b,o+j,none⟩=some u) (k:Nat) (h:k < l.length) :
  w.cell? ⟨b,o+k*2,none⟩=some (.int .i64 l[k].1)∧w.cell? ⟨b,o+k*2+1,none⟩=some (.int .i64 l[k].2) :=
 ⟨hcell (k*2) _ (flat_get ark l k 0 h (by omega)),hcell (k*2+1) _ (flat_get ark l k 1 h (by omega))⟩
def InU (ts:List ay):Prop := ∀ x ∈ ts,∀ u ∈ bn x,0≤u.2∧u.2 < ts.length
theorem zIf {p:Prop} (h:p:=by
 refine wpAnyH_done (by kernel_rfl) ?_ _;(try clear hHeld);exact zCm):p:=h
theorem azG (M:Tab) (s1 s2:Int) (a b:Nat) (n c L gR rb:Nat) (w:World) (hn:n=M.length) (ha:a < M.length) (hb:b < M[a].length) (hr:w.cell? ⟨gR,0,none⟩=some (.slice (some ⟨rb,0,none⟩) n c)) (hgr:gR < w.heap.size) (ht:TabAt w L (.slice (some ⟨rb,0,none⟩) n c) M) :
  Calls Tryz.prog 125 #[.agg #[.int .i64 s1,.int .i64 a],.agg #[.int .i64 s2,.int .i64 b],.pointer (some ⟨gR,0,none⟩)] w (RTq w (.bool (M.at_ a b))):=by
 have hat:M.at_ a b=M[a][b]:=by simp [Tab.at_,List.getD,ha,hb]
 rw [hat];obtain ⟨u,hrow⟩:=ht.row ha;obtain ⟨bb,cc,rfl,hL,hbs,hne,hcell,-⟩:=hrow.pos hb;have hc:=hrow.cell;have hrl:=(Rd.uX hrow.own)
 have hlen:b < M[a].length:=hb;have asT:rb < w.heap.size:=by
  obtain ⟨us,h1,_⟩:=ht;exact (h1.lt rb rfl).2
 have ha2:a < n:=by omega
 clear hrow ht hrl hat hn hL;generalize M[a][b]=z at *;generalize M[a].length=ln at *;have hai:(a:Int) < n:=by omega
 have hbi:(b:Int) < ln:=by omega
 have hd0:decide ((a:Int) < 0)=false:=by simp
 have hd1:decide (n≤a)=false:=by simpa using ha2
 have hd2:decide ((b:Int) < 0)=false:=by simp
 have hd3:decide (ln≤b)=false:=by simpa using hb
 have KR:=hiQ (Kept.rd (P:=fun w _ => w.cell? ⟨gR,0,none⟩=some (.slice (some ⟨rb,0,none⟩) n c)∧w.cell? ⟨rb,a,none⟩=some (.slice (some ⟨bb,0,none⟩) ln cc)∧w.cell? ⟨bb,b,none⟩=some (.bool z)) ⟨hr,hc,hcell⟩ (Nat.le_refl _) (fun _ hk => ⟨(hk ⟨gR,0,none⟩ hgr).trans hr,(hk ⟨rb,a,none⟩ asT).trans hc,(hk ⟨bb,b,none⟩ hbs).trans hcell⟩));clear hr hc hcell;go_enter Tryz.func125,Tryz.ntmps125
 go_upto_region 1 with fail;refine jg (fun wd2 hb1 X Y => ?_);replace KR:=b1 KR hb1;have hw3:=hb1;clear hb1;have bJ:=X.out.e1;have kU:=Y.out.e1;refine wp_region_held_drew (S:=(fun w' => w'.cell? ⟨w.heap.size,1,none⟩=some (.int .i64 a)∧w'.cell? ⟨w.heap.size+1,1,none⟩=some (.int .i64 b)∧(w'.cell? ⟨gR,0,none⟩=some (.slice (some ⟨rb,0,none⟩) n c))∧(w'.cell? ⟨rb,a,none⟩=some (.slice (some ⟨bb,0,none⟩) ln cc))∧(w'.cell? ⟨bb,b,none⟩=some (.bool z)))) (by kernel_rfl) ⟨bJ,kU,(KR.out.now.1),(KR.out.now.2.1),(KR.out.now.2.2)⟩ (fun hHeld => ?_);clear bJ kU;have hb4:Below wd2.heap.size wd2 (wd2.drew):=(Below.refl _ _).drew;obtain ⟨X,Y,KR⟩:=b3 X Y KR hb4;replace hw3:=dT hw3 hb4;clear hb4;generalize wd2.drew=fG at *;refine tk 0 ?_;refine tk 1 ?_;refine tk 2 ?_;refine tk 3 ?_;refine tk 4 ?_;refine tk 5 ?_;refine tk 6 ?_;refine tk 7 ?_;refine tk 8 ?_;refine tk 9 ?_;exact zIf
theorem aya (M:Tab) (xs ys:List (Int × Int)) (n m c L gR rb:Nat) (va vb:Value) (w:World) (hsh:M.shape n m) (hlx:xs.length≤1000000) (hly:ys.length≤1000000) (h1:∀ u ∈ xs,0≤u.2∧u.2 < n) (h2:∀ u ∈ ys,0≤u.2∧u.2 < m)
  (hx:Rd w w.heap.size 2 va xs.length (LY xs)) (hy:Rd w w.heap.size 2 vb ys.length (LY ys)) (hp:w.cell? ⟨gR,0,none⟩=some (.slice (some ⟨rb,0,none⟩) n c)) (hlt:gR < w.heap.size) (ht:TabAt w L (.slice (some ⟨rb,0,none⟩) n c) M) :
  Calls Tryz.prog 124 #[va,vb,.func (.func 125) #[] #[.pointer (some ⟨gR,0,none⟩)]] w (RTq w (.bool (eqL (relE M) xs ys))):=by
 obtain ⟨A,cx,rfl,hcx⟩:=hx.form;obtain ⟨B,dy,rfl,hdy⟩:=hy.form;have HX:=hiQ hx;have HY:=hiQ hy;have Hp:=hiQ hp;have HT:=hiQ ht;have H1:=hiQ h1;have H2:=hiQ h2;have HS:=hiQ hsh;clear hx hy hp ht h1 h2 hsh;by_cases hl:xs.length=ys.length
 ·
  have HL:=hiQ hl;have hn1:((xs.length:Int) != (ys.length:Int))=false:=by simp [hl]
  have hl':(xs.length:Int)≤ys.length:=by omega
  clear hl;go_enter Tryz.func124,Tryz.ntmps124
  go_wp2
  go_loopw [17] (fun i wr => ∃ k:Nat,k≤xs.length∧i = .int .i64 k∧ajI (relE M) xs ys k∧Below w.heap.size w wr) (fun i _ => xs.length - (intOf i).toNat)
  case atStart => exact ⟨0,by omega,rfl,ajI.zero,Below.refl _ _⟩
  case round =>
   obtain ⟨k,hk,rfl,hup,hb⟩:=hrel;have Hup:=hiQ hup;clear hup;by_cases hltk:k < xs.length
   ·
    have akf:k < ys.length:=by omega
    obtain ⟨b1,o1,rfl,hbb,hcell⟩:=(HX.out.below hb).at_ (by omega);obtain ⟨c0,c1⟩:=asn hcell k hltk;obtain ⟨b2,o2,rfl,SE,hcell'⟩:=(HY.out.below hb).at_ (by omega);obtain ⟨d0,d1⟩:=asn hcell' k akf;have Hs:=hiQ (fun h => ajI.succ Hup.out hltk akf h);have Hn:=hiQ (fun h => aq4 (f:=relE M) hltk akf h);have hu1:=H1.out _ (List.getElem_mem hltk);have hu2:=H2.out _ (List.getElem_mem akf);generalize xs[k]=x at *;generalize ys[k]=y at *;obtain ⟨x1,x2⟩:=x;obtain ⟨y1,y2⟩:=y;simp only at hu1 hu2 c0 c1 d0 d1;obtain ⟨xa,rfl⟩ : ∃ a:Nat,x2=(a:Int):=⟨x2.toNat,by omega⟩
    obtain ⟨ya,rfl⟩ : ∃ a:Nat,y2=(a:Int):=⟨y2.toNat,by omega⟩
    have hi1:(k:Int) < xs.length:=by omega
    have hi2:(k:Int) < ys.length:=by omega
    have hbs:=hb.size;have d0':=fun o => ((Below.refl wr.heap.size wr).alloc (Nat.le_refl _) o).cell (p:=⟨b2,o2+k*2,none⟩) (Nat.lt_of_lt_of_le SE hbs) |>.trans d0
    have d1':=fun o => ((Below.refl wr.heap.size wr).alloc (Nat.le_refl _) o).cell (p:=⟨b2,o2+k*2+1,none⟩) (Nat.lt_of_lt_of_le SE hbs) |>.trans d1
    have h2b:=Oe wr;have hxa:xa < M.length:=by rw [HS.out.1];omega
    have hya:ya < M[xa].length:=by rw [HS.out.2];omega
    clear hcell hcell' d0 d1;go_wp2_with fail;have hbo:=fun o1 o2 => hb.trans ((h2b o1 o2).mono hb.size);refine (azG M x1 y1 xa ya n c L gR rb _ HS.out.1.symm hxa hya (((hbo _ _).cell (p:=⟨gR,0,none⟩) hlt).trans Hp.out) (Nat.lt_of_lt_of_le hlt (hbo _ _).size) (HT.out.heap fun q _ h => (hbo _ _).block q h)).mono ?_;rintro e w2 ⟨rfl,hb2⟩;have Cm:=(hbo _ _).trans (hb2.mono (hbo _ _).size);clear hb2 h2b d0' d1' hb hbo;have hre:relE M (x1,(xa:Int)) (y1,(ya:Int))=M.at_ xa ya:=rfl;cases hsv:M.at_ xa ya with
    | true =>
     have VQ:=hiQ (Hs.out (hre.trans hsv));clear hsv hre;exact zDc
    | false =>
     have VQ:=hiQ (Hn.out (hre.trans hsv));clear hsv hre;exact zEr
   exact zEs
 have hn1:((xs.length:Int) != (ys.length:Int))=true:=by rw [bne_iff_ne];omega
 have HL:=hiQ (aq5 (f:=relE M) hl);clear hl;go_enter Tryz.func124,Tryz.ntmps124
 exact zGm
theorem atb:(Tryz.prog.info? 125).map (fun i => (i.zero,i.size,i.bytes))=some (some (.slice none 0 0),1,24):=by kernel_rfl
theorem atc:(Tryz.prog.info? 4).map (fun i => (i.zero,i.size,i.bytes))=some (some (.bool false),1,1):=by kernel_rfl
def aiv (ts us:List ay) (a:Nat):List Bool:=match ts[a]? with | some x => us.map (nT x) | none => []
theorem ajV {ts us:List ay} {a:Nat} (h:a < ts.length):(aiv ts us a).length=us.length:=by unfold aiv;rw [List.getElem?_eq_getElem h];simp
def aiA (ts us:List ay) (M:Tab) (i k:Nat):Prop:=M.length=ts.length∧∀ (a:Nat) (h:a < M.length),M[a]=if a < i then aiv ts us a else if a=i then (aiv ts us a).take k else []
theorem aiA.start (ts us:List ay):aiA ts us (List.replicate ts.length []) 0 0:=by
 refine ⟨by simp,fun a h => ?_⟩;rw [List.getElem_replicate,if_neg (by omega)];split <;> simp
theorem zFo {p:Prop} (h:p:=by
 rw [List.getElem_set_ne (fun h => e h.symm),h.2 a ha];split <;> first | rfl | simp [e]):p:=h
theorem aiA.next {ts us:List ay} {M:Tab} {i k:Nat} (h:aiA ts us M i k) (hi:i < ts.length) (hk:k < us.length):∃ h1:i < M.length,M[i].length=k∧aiA ts us (M.set i (M[i] ++ [nT ts[i] us[k]])) i (k+1):=by
 have h1:i < M.length:=by rw [h.1];exact hi
 have hr:=h.2 i h1;rw [if_neg (by omega),if_pos rfl] at hr;refine ⟨h1,by rw [hr,List.length_take,ajV hi];omega,by rw [List.length_set];exact h.1,fun a ha => ?_⟩;rw [List.length_set] at ha;by_cases e:a=i
 ·
  subst e;rw [List.getElem_set_self,if_neg (by omega),if_pos rfl,hr];have:(aiv ts us a).take (k+1)=(aiv ts us a).take k ++ [(aiv ts us a)[k]'(by rw [ajV hi];exact hk)]:=List.take_succ_eq_append_getElem _;rw [this]
  congr 2
  unfold aiv;simp [List.getElem?_eq_getElem hi]
 exact zFo
theorem aiA.row {ts us:List ay} {M:Tab} {i:Nat} (h:aiA ts us M i us.length):aiA ts us M (i+1) 0:=by
 refine ⟨h.1,fun a ha => ?_⟩;rw [h.2 a ha];by_cases e1:a < i
 · rw [if_pos e1,if_pos (by omega)]
 rw [if_neg e1];by_cases e2:a=i
 ·
  subst e2;rw [if_pos rfl,if_pos (by omega),List.take_of_length_le (by rw [ajV (by rw [← h.1];exact ha)];exact Nat.le_refl _)]
 rw [if_neg e2,if_neg (by omega)];split <;> simp
theorem aiA.done {ts us:List ay} {M:Tab} (h:aiA ts us M ts.length 0):M.shape ts.length us.length∧Sound ts us M∧Marks ts us M:=by
 have hrow:∀ (a:Nat) (ha:a < M.length),M[a]=aiv ts us a:=fun a ha => by
  have:=h.2 a ha;rwa [if_pos (by rw [← h.1];exact ha)] at this
 have hat:∀ i k x y,ts[i]?=some x→us[k]?=some y→M.at_ i k=nT x y:=by
  intro i k x y hx hy;have hi:=(List.getElem?_eq_some_iff.1 hx).1;have hk:=(List.getElem?_eq_some_iff.1 hy).1;have hiM:i < M.length:=by rw [h.1];exact hi
  have e1:M.getD i []=aiv ts us i:=by rw [List.getD_eq_getElem?_getD,List.getElem?_eq_getElem hiM,Option.getD_some,hrow i hiM]
  unfold Tab.at_;rw [e1];unfold aiv;rw [hx];simp [List.getD_eq_getElem?_getD,hy]
 refine ⟨⟨h.1,fun i hi => by rw [hrow i hi,ajV (by rw [← h.1];exact hi)]⟩,fun i k hb => ?_,fun i k hm => ?_⟩
 ·
  obtain ⟨x,y,hx,hy,ha,_⟩:=abg ts us i k hb;rw [hat i k x y hx hy];exact (ata x y).2 ha
 have hi:i < M.length:=by
  rcases Nat.lt_or_ge i M.length with h1 | h1
  · exact h1
  unfold Tab.at_ at hm;rw [show M.getD i [] = [] by simp [List.getD,List.getElem?_eq_none h1]] at hm;simp [List.getD] at hm
 have hi2:i < ts.length:=by rw [← h.1];exact hi
 have hk:k < us.length:=by
  rcases Nat.lt_or_ge k us.length with h1 | h1
  · exact h1
  unfold Tab.at_ at hm;rw [show M.getD i []=M[i] by simp [List.getD,hi],hrow i hi] at hm;rw [List.getD_eq_getElem?_getD,List.getElem?_eq_none (by rw [ajV hi2];exact h1)] at hm;cases hm
 refine ⟨ts[i],us[k],List.getElem?_eq_getElem hi2,List.getElem?_eq_getElem hk,?_⟩;rw [hat i k _ _ (List.getElem?_eq_getElem hi2) (List.getElem?_eq_getElem hk)] at hm;exact (ata _ _).1 hm
theorem aup {x y:ay} (h:Alike x y):(bn x).length=(bn y).length:=by
 have:=h.outs;unfold outs at this;simpa using this
theorem arU {x:ay} (h:x.ah.length≤1000):(bn x).length≤1000000:=by
 unfold bn;rw [List.length_append,List.length_append,List.length_map];split <;> split <;> simp <;> omega
def awS (ts us:List ay) (w:World) (e:Ending) (w':World):Prop := ∃ rb c M,e = .returned (.slice (some ⟨rb,0,none⟩) ts.length c)∧TabAt w' w.heap.size (.slice (some ⟨rb,0,none⟩) ts.length c) M∧M.shape ts.length us.length∧(∀ i k,M.at_ i k=aoY ts us i k)∧Below w.heap.size w w'
theorem TabAt.base {w:World} {L L':Nat} {v:Value} {M:Tab} (h:TabAt w L v M) (hL:L'≤L):TabAt w L' v M:=by
 obtain ⟨us,h1,h2,h3⟩:=h;exact ⟨us,own_base h1 hL,fun i hi => by obtain ⟨u,hu,h4⟩:=h2 i hi;exact ⟨u,hu,own_base h4 hL⟩,h3⟩
theorem TabAt.rowAt {w:World} {L n c rb:Nat} {M:Tab} {u:Value} (h:TabAt w L (.slice (some ⟨rb,0,none⟩) n c) M) {i:Nat} (hi:i < M.length) (hc:w.cell? ⟨rb,i,none⟩=some u):aso w L (.slice (some ⟨rb,0,none⟩) n c) M rb i M[i] u:=by
 obtain ⟨u2,h2⟩:=h.row hi;have h3:=h2.cell;rw [hc] at h3;injection h3 with h3;subst h3;exact h2
theorem Af {w:World} {g o:Nat} {u:Value} (h:w.cell? ⟨g,o,none⟩=some u):Kept (fun w => w.cell? ⟨g,o,none⟩=some u) w g (g+1):=by
 refine ⟨h,fun _ hk => (World.cell?_of_block (hk g (Nat.le_refl _) (by omega))).trans h,?_⟩;exact World.block_lt_of_cell? _ _ h
theorem jc.up {w:World} {B:Nat} {x:ay} {vs vm:Value} (h:jc w B x vs vm) (hB:B≤w.heap.size):jc w w.heap.size x vs vm:=h.keep (fun _ _ => rfl) hB
def aqV (ts us:List ay) (M:Tab):Prop:=M.shape ts.length us.length∧Sound ts us M∧Marks ts us M
structure ayq (w wr:World) (A A':Option Addr) (n m c c' gR rb:Nat) (M:Tab):Prop where
 sa:Has wr w.heap.size 25 #[.slice A n c]
 sb:Has wr (w.heap.size+1) 25 #[.slice A' m c']
 r:Has wr gR 126 #[.slice (some ⟨rb,0,none⟩) n n]
 t:TabAt wr (w.heap.size+2) (.slice (some ⟨rb,0,none⟩) n n) M
 b:Below w.heap.size w wr
theorem zAd {p:Prop} (h:p:=by exact ⟨R.out.cell 0,⟨X.out.cell 0,⟨X.out.cell 1,⟨X.out.cell 2,⟨X.out.cell 3,⟨X.out.cell 4,⟨X.out.cell 5,⟨X.out.cell 6,⟨X.out.cell 7,⟨X.out.cell 8,⟨X.out.cell 9,⟨Y.out.cell 0,⟨Y.out.cell 1,⟨Y.out.cell 2,⟨Y.out.cell 3,⟨Y.out.cell 4,⟨Y.out.cell 5,⟨Y.out.cell 6,⟨Y.out.cell 7,⟨Y.out.cell 8,⟨Y.out.cell 9,(KC.out.now)⟩⟩⟩⟩⟩⟩⟩⟩⟩⟩⟩⟩⟩⟩⟩⟩⟩⟩⟩⟩⟩):p:=h
theorem zAe {p:Prop} (h:p:=by exact ⟨R.out.cell 0,⟨X.out.cell 0,⟨X.out.cell 1,⟨X.out.cell 2,⟨X.out.cell 3,⟨X.out.cell 4,⟨X.out.cell 5,⟨X.out.cell 6,⟨X.out.cell 7,⟨X.out.cell 8,⟨X.out.cell 9,⟨Y.out.cell 0,⟨Y.out.cell 1,⟨Y.out.cell 2,⟨Y.out.cell 3,⟨Y.out.cell 4,⟨Y.out.cell 5,⟨Y.out.cell 6,⟨Y.out.cell 7,⟨Y.out.cell 8,⟨Y.out.cell 9,⟨(KC.out.now),(KB.out.now)⟩⟩⟩⟩⟩⟩⟩⟩⟩⟩⟩⟩⟩⟩⟩⟩⟩⟩⟩⟩⟩⟩):p:=h
theorem zFd {p:Prop} (h:p:=by
 go_wp2_with fail;go_roundw
 case rel => exact ⟨k+1,bb,M2,by omega,by go_num,rfl,FI.out,hc1,HC2.out,aqt.out,X.out,HX.out,⟨SA.out,SB.out,R.out,TB.out.now,hb0⟩⟩
 case measure => simp [intOf];omega):p:=h
theorem zGe {p:Prop} (h:p:=by
 cases bb with
 | true => have:=HC2.out rfl;simp only [if_true] at hg ⊢; omega
 | false => simp only [if_true] at hg ⊢; simp;omega):p:=h
theorem avc (ts us:List ay) (A A':Option Addr) (c c':Nat) (w:World) (hn:ts.length≤1000) (hm:us.length≤1000) (hml:∀ x ∈ ts,x.ah.length≤1000) (hml':∀ x ∈ us,x.ah.length≤1000) (hiu:InU ts) (avd:InU us)
  (ht:aU w w.heap.size (.slice A ts.length c) ts) (hu:aU w w.heap.size (.slice A' us.length c') us) :
  Calls Tryz.prog 100 #[.agg #[.slice A ts.length c],.agg #[.slice A' us.length c'],.bool false] w (awS ts us w):=by
 have HT:=hiQ ht;have HU:=hiQ hu;have HM1:=hiQ hml;have EC:=hiQ hml';have HI1:=hiQ hiu;have HI2:=hiQ avd;clear ht hu hml hml' hiu avd;go_enter Tryz.func100,Tryz.ntmps100
 go_upto_region 1 with fail;refine jg (fun wd2 hb1 SA SB => ?_);have hw3:=hb1;clear hb1;have ajw:=SA.out.e0;obtain ⟨i0,hi,hz0,hz1,hz2⟩:=info_parts atb;have hLb:w.heap.size+2≤wd2.heap.size:=SB.out.here;go_upto_region 2 with (refine wpList_make_full wd2 rfl _ _ 126 rfl (w.heap.size+2) 125 i0 (.slice none 0 0) 1 Tryz.underlying126 hi hz0 hz1 .i64 .i64 _ _ ts.length rfl rfl rfl rfl (by rw [hz2];omega) (by simp only [maxLen];omega) hLb ?_;intro w3 hown3 hg3)
 rw [asU _ _ rfl] at hown3;have htab:=TabAt.new hown3;have hb3:Below wd2.heap.size wd2 w3:=(Below.refl _ wd2).grown hg3 (Nat.le_refl _) (fun k hk => by cases hk);obtain ⟨rb,hrb⟩ : ∃ g,g=wd2.heap.size:=⟨_,rfl⟩
 rw [← hrb] at htab hLb;rw [← hrb];clear hown3 hg3 hi hz0 hz1 hz2 hrb ajw;obtain ⟨SA,SB⟩:=b2 SA SB hb3;replace hw3:=dT hw3 hb3;have TB:=hiQ (Kept.tab htab);clear htab hb3;refine aO (fun fG hb4 R => ?_);have nI:=SA.out.here;have mO:=SB.out.here;have kH:=TB.out.le;have oC:=hw3.size;obtain ⟨SA,SB,TB⟩:=b3 SA SB TB hb4;replace hw3:=dT hw3 hb4;clear hb4;generalize w3.heap.size=g6 at *;obtain ⟨gR,rfl⟩ : ∃ g,g=g6:=⟨_,rfl⟩
 have ao2:ayq w fG A A' ts.length us.length c c' gR rb _:=⟨SA.out,SB.out,R.out,TB.out.now,hw3⟩
 have ajw:=SA.out.e0;go_upto_region 3 with fail;go_loopw [24] (fun s24 wr => ∃ i:Nat,i≤ts.length∧s24 = .int .i64 i∧∃ M,aiA ts us M i 0∧ayq w wr A A' ts.length us.length c c' gR rb M) (fun s24 _ => ts.length - (intOf s24).toNat)
 case atStart => exact ⟨0,by omega,rfl,_,aiA.start ts us,ao2⟩
 case round =>
  clear SA SB R TB ao2;obtain ⟨i,hi,rfl,M,hM,Ai⟩:=hrel;have hb0:=Ai.b;have SA:=Ai.sa;have SB:=Ai.sb;have R:=Ai.r;have hTA:=Ai.t;replace SA:=hiQ SA;replace SB:=hiQ SB;replace R:=hiQ R;have TB:=hiQ (Kept.tab hTA);clear hTA Ai;have HBM:=hiQ hM;clear hM;by_cases hlt:i < ts.length
  ·
   have hi1:(i:Int) < ts.length:=by omega
   obtain ⟨b,o,hAe,hbb,hel⟩:=HT.out.elem (by omega);obtain ⟨vs,vm,hcs,hxa⟩:=hel i hlt;replace hcs:=hcs.below hb0 hbb;replace hxa:=hxa.keep (w':=wr) (fun p hp => (hb0).cell hp) (Nat.le_refl _);obtain ⟨x,hxe⟩ : ∃ x,x=ts[i]:=⟨_,rfl⟩
   rw [← hxe] at hcs hxa;obtain ⟨C1,l1,C2,l2,rfl,rfl,-,-⟩:=hxa.forms;obtain ⟨x0,x1,x2,x3,x4,x5,x6,x7,x8,x9⟩:=hcs;have hlx:i < ts.length:=hlt;have HX:=hiQ (Kept.rd (P:=fun w B => jc w B x (.slice C1 x.syms.length l1) (.slice C2 x.ah.length l2)) hxa (hb0).size (fun _ hk => hxa.keep hk (Nat.le_refl _)));have hxi:ts[i]?=some x:=by rw [hxe];exact List.getElem?_eq_getElem hlt
   have HXI:=hiQ hxi;clear hel hxa hxe hxi;subst hAe;have ajw:=SA.out.e0;go_upto_region 5 with fail;clear ajw;refine aO (fun lZ iR X => ?_);have akV:=SA.out.here;have qA:=SB.out.here;have alj:=R.out.here;have sO:=TB.out.le;have sW:=HX.out.le;have Az:=hb0.size;obtain ⟨SA,SB,R,TB,HX⟩:=b5 SA SB R TB HX iR;replace hb0:=dT hb0 iR;clear iR;generalize wr.heap.size=g13 at *;clear x0 x1 x2 x3 x4 x5 x6 x7 x8 x9;obtain ⟨gX,rfl⟩ : ∃ g,g=g13:=⟨_,rfl⟩
   have hX0:=X.out;have ao6:ayq w lZ (some ⟨b,o,none⟩) A' ts.length us.length c c' gR rb M:=⟨SA.out,SB.out,R.out,TB.out.now,hb0⟩
   have ah1:=HX.out;have ajW:=SB.out.e0;go_upto_region 6 with fail;clear ajW;go_loopw [32] (fun s32 wr2 => ∃ k:Nat,k≤us.length∧s32 = .int .i64 k∧∃ M,aiA ts us M i k∧Has wr2 gX 71 #[.int .i64 x.kind,.string ⟨x.name.toArray⟩,.int .i64 x.low,.int .i64 x.high,.int .i64 x.max,.slice C1 x.syms.length l1,.slice C2 x.ah.length l2,.int .i64 x.key,.int .i64 x.elem,.bool x.opn]∧Kept (fun w' => jc w' w.heap.size x (.slice C1 x.syms.length l1) (.slice C2 x.ah.length l2)) wr2 0 w.heap.size∧ayq w wr2 (some ⟨b,o,none⟩) A' ts.length us.length c c' gR rb M) (fun s32 _ => us.length - (intOf s32).toNat)
   case atStart => exact ⟨0,by omega,rfl,M,HBM.out,hX0,ah1,ao6⟩
   case round =>
    clear SA SB R TB X HX ao6 hX0 ah1 HBM hb0;obtain ⟨k,hk,rfl,M,hM,X,hHX,Ai⟩:=hrel;have hb0:=Ai.b;have SA:=Ai.sa;have SB:=Ai.sb;have R:=Ai.r;have hTA:=Ai.t;replace SA:=hiQ SA;replace SB:=hiQ SB;replace R:=hiQ R;have TB:=hiQ (Kept.tab hTA);clear hTA Ai;have HBM:=hiQ hM;have HX:=hiQ (hHX);clear hM hHX;replace X:=hiQ X;by_cases hltk:k < us.length
    ·
     have hi2:(k:Int) < us.length:=by omega
     obtain ⟨ba2,oa2,hAe,hbb,hel⟩:=HU.out.elem (by omega);obtain ⟨vs,vm,hcs,hxa⟩:=hel k hltk;replace hcs:=hcs.below hb0 hbb;replace hxa:=hxa.keep (w':=wr) (fun p hp => (hb0).cell hp) (Nat.le_refl _);obtain ⟨y,hye⟩ : ∃ x,x=us[k]:=⟨_,rfl⟩
     rw [← hye] at hcs hxa;obtain ⟨D1,m1,D2,m2,rfl,rfl,-,-⟩:=hxa.forms;obtain ⟨y0,y1,y2,y3,y4,y5,y6,y7,y8,y9⟩:=hcs;have HY:=hiQ (Kept.rd (P:=fun w B => jc w B y (.slice D1 y.syms.length m1) (.slice D2 y.ah.length m2)) hxa (hb0).size (fun _ hk => hxa.keep hk (Nat.le_refl _)));obtain ⟨hiM,hri,hbn⟩:=HBM.out.next hlx hltk;rw [← hye,show ts[i]=x from Option.some.inj ((List.getElem?_eq_getElem hlx).symm.trans HXI.out)] at hbn;have HBN:=hiQ hbn;clear hel hxa hye hbn;subst hAe;have ajW:=SB.out.e0;go_upto_region 8 with fail;clear ajW;refine aO (fun jU iO Y => ?_);have Es:=SA.out.here;have sJ:=SB.out.here;have uP:=R.out.here;have sN:=X.out.here;have uQ:=TB.out.le;have sK:=HX.out.le;have uO:=HY.out.le;have uh:=hb0.size;obtain ⟨SA,SB,R,X,TB,HX,HY⟩:=b7 SA SB R X TB HX HY iO;replace hb0:=dT hb0 iO;clear iO;generalize wr.heap.size=g22 at *;clear y0 y1 y2 y3 y4 y5 y6 y7 y8 y9;obtain ⟨gY,rfl⟩ : ∃ g,g=g22:=⟨_,rfl⟩
     obtain ⟨u,hrow⟩:=TB.out.now.row hiM;obtain ⟨Au,cu,rfl⟩:=hrow.form;rw [hri] at hrow;have KC:=hiQ (Af hrow.cell);have hi3:(i:Int) < ts.length:=by omega
     have hd0:decide ((i:Int) < 0)=false:=by simp
     have hd1:decide (ts.length≤i)=false:=by simpa using hlx
     clear hrow;have iV:=R.out.e0;obtain ⟨aK,bJ,bY,bZ,dL,eX,bU,dD,dM,dU⟩:=X.out.c10;obtain ⟨kT,kU,kV,kW,kX,mD,lJ,mF,wS,wU⟩:=Y.out.c10;refine l9 (S:=(fun w' => w'.cell? ⟨gR,0,none⟩=some (.slice (some ⟨rb,0,none⟩) ts.length ts.length)∧w'.cell? ⟨gX,0,none⟩=some (.int .i64 x.kind)∧w'.cell? ⟨gX,1,none⟩=some (.string ⟨x.name.toArray⟩)∧w'.cell? ⟨gX,2,none⟩=some (.int .i64 x.low)∧w'.cell? ⟨gX,3,none⟩=some (.int .i64 x.high)∧w'.cell? ⟨gX,4,none⟩=some (.int .i64 x.max)∧w'.cell? ⟨gX,5,none⟩=some (.slice C1 x.syms.length l1)∧w'.cell? ⟨gX,6,none⟩=some (.slice C2 x.ah.length l2)∧w'.cell? ⟨gX,7,none⟩=some (.int .i64 x.key)∧w'.cell? ⟨gX,8,none⟩=some (.int .i64 x.elem)∧w'.cell? ⟨gX,9,none⟩=some (.bool x.opn)∧w'.cell? ⟨gY,0,none⟩=some (.int .i64 y.kind)∧w'.cell? ⟨gY,1,none⟩=some (.string ⟨y.name.toArray⟩)∧w'.cell? ⟨gY,2,none⟩=some (.int .i64 y.low)∧w'.cell? ⟨gY,3,none⟩=some (.int .i64 y.high)∧w'.cell? ⟨gY,4,none⟩=some (.int .i64 y.max)∧w'.cell? ⟨gY,5,none⟩=some (.slice D1 y.syms.length m1)∧w'.cell? ⟨gY,6,none⟩=some (.slice D2 y.ah.length m2)∧w'.cell? ⟨gY,7,none⟩=some (.int .i64 y.key)∧w'.cell? ⟨gY,8,none⟩=some (.int .i64 y.elem)∧w'.cell? ⟨gY,9,none⟩=some (.bool y.opn)∧(w'.cell? ⟨rb,i,none⟩=some (.slice Au k cu)))) (fun j => j == 13) (by kernel_rfl) ⟨iV,aK,bJ,bY,bZ,dL,eX,bU,dD,dM,dU,kT,kU,kV,kW,kX,mD,lJ,mF,wS,wU,(KC.out.now)⟩ (fun hHeld => ?_);clear iV aK bJ bY bZ dL eX bU dD dM dU kT kU kV kW kX mD lJ mF wS wU;have OV:Below jU.heap.size jU (jU.drew):=(Below.refl _ _).drew;obtain ⟨SA,SB,R,X,Y,TB,HX,HY,KC⟩:=b9 SA SB R X Y TB HX HY KC OV
     replace hb0:=dT hb0 OV;clear OV;generalize jU.drew=zy at *;refine eH 0 ?_;refine eH 1 ?_;refine eH 2 ?_;refine eH 3 ?_;refine eH 4 ?_;refine eH 5 ?_;refine eH 6 ?_;refine eH 7 ?_;refine eH 8 ?_;refine gJ 9 fun K hK => ?_;go_simp;((with_reducible refine (alike_any x y _ _ _ _ _ (HX.out.now.up HX.out.le) (HY.out.now.up HY.out.le)).mono ?_);rintro e wR ⟨rfl,Z8⟩);obtain ⟨SA,SB,R,X,Y,TB,HX,HY,KC⟩:=b9 SA SB R X Y TB HX HY KC Z8;replace hb0:=dT hb0 Z8;clear Z8;(try clear hHeld);refine hK.out _ _ zAd (fun hHeld => ?_);clear hK K;refine gJ 10 fun K hK => ?_;go_simp;refine aO (fun aqg afl N => ?_);have Vb:=SA.out.here;have ah2:=SB.out.here;have ah3:=R.out.here;have ah4:=X.out.here;have Zo:=Y.out.here;have ahK:=TB.out.le;have alU:=HX.out.le;have alV:=HY.out.le;have alW:=KC.out.le;have alX:=hb0.size;obtain ⟨SA,SB,R,X,Y,TB,HX,HY,KC⟩:=b9 SA SB R X Y TB HX HY KC afl;replace hb0:=dT hb0 afl;clear afl;generalize wR.heap.size=g37 at *;(try clear hHeld);refine hK.out _ _ zAd (fun hHeld => ?_);clear hK K;refine gJ 11 fun K hK => ?_;have hrow:=TB.out.now.rowAt hiM KC.out.now;have hown:=hrow.own;rw [hri] at hown;have hrb:=TB.out.le;obtain ⟨i0,hif,hz0,hz1,hz2⟩:=info_parts atc;have hsep:∀ q,(Value.slice Au k cu).ownBlock=some q→w.heap.size+2≤q∧q≠gR∧q≠gX∧q≠gY∧q≠rb∧q < aqg.heap.size:=fun q hq =>
      ⟨(hown.lt q hq).1,fun e => akM hown R.out (by decide) hq e.symm,fun e => akM hown X.out (by decide) hq e.symm,fun e => akM hown Y.out (by decide) hq e.symm,fun e => hrow.ne q hq e.symm,(hown.lt q hq).2⟩
     have asT:=KC.out.le;refine step_append_lies (P:=Tryz.prog) aqg (by rfl) _ _ _ (by rfl) (w.heap.size+2) 4 i0 _ 1 1 Tryz.underlying125 hif hz0 hz1 hz2 rfl (by decide) (.slice Au k cu) k _ rfl hown ⟨g37,0,none⟩ 1 1 [.bool (nT x y)] rfl rfl (World.news_of_block N.out) (by simp [Value.oneCell']) (by omega) (by simp only [maxLen];omega) (by omega) (by omega) aqg.heap.size rfl ?_;intro g cap w1 hown1 hgr hat _;have hk4:∀ q,q < aqg.heap.size→(Value.slice Au k cu).ownBlock≠some q→w1.heap[q]?=aqg.heap[q]?:=fun q h1 h2 => hgr.block q h1 (fun e => h2 e.symm);have hb4:Below (w.heap.size+2) aqg w1:=(Below.refl _ aqg).grown hgr (by omega) (fun q hq => (hown.lt q hq).1);have hput:=hrow.put w1 (.slice (some ⟨g,0,none⟩) (k+1) cap) (M[i] ++ [nT x y]) (by rw [List.length_append,hri];unfold bV;rw [List.map_append];exact hown1) hb4.size (fun q _ h1 h2 => hk4 q h1 h2) (fun q hq => by
      simp only [Value.ownBlock,Option.some.injEq] at hq;subst hq;rcases hat with h | h
      · exact .inl h
      exact .inr (by omega))
     have hcell2:w1.cell? ⟨rb,i,none⟩=some (.slice Au k cu):=(World.cell?_of_block (hk4 rb (by omega) (fun e => hrow.ne rb e rfl))).trans hrow.cell;have aBQ:w1.frozen? ⟨rb,i,none⟩=false:=(World.frozen?_of_block (hk4 rb (by omega) (fun e => hrow.ne rb e rfl))).trans hrow.free;have asq:∀ q,(Value.slice Au k cu).ownBlock=some q→w.heap.size+2≤q∧q≠gR∧q≠gX∧q≠gY∧q≠rb:=fun q hq => by have:=hsep q hq;omega
     have hRr:gR≠rb:=fun e => by
      obtain ⟨us0,hu0,_⟩:=TB.out.now;exact akM hu0 R.out (by decide) rfl e
     have hXr:gX≠rb:=fun e => by
      obtain ⟨us0,hu0,_⟩:=TB.out.now;exact akM hu0 X.out (by decide) rfl e
     have hYr:gY≠rb:=fun e => by
      obtain ⟨us0,hu0,_⟩:=TB.out.now;exact akM hu0 Y.out (by decide) rfl e
     have hrL:w.heap.size+2≤rb:=by
      obtain ⟨us0,hu0,_⟩:=TB.out.now;exact (hu0.lt rb rfl).1
     clear hown hown1 hgr hat hrow hsep N HY TB KC;replace SA:=dG SA hk4 (fun hh => by have:=asq _ hh;omega);replace SB:=dG SB hk4 (fun hh => by have:=asq _ hh;omega);replace R:=dG R hk4 (fun hh => by have:=asq _ hh;omega);replace X:=dG X hk4 (fun hh => by have:=asq _ hh;omega);replace Y:=dG Y hk4 (fun hh => by have:=asq _ hh;omega);replace HX:=hiQ (HX.out.iJ hb4 (show w.heap.size≤w.heap.size+2 by omega));replace hb0:=hb0.trans (hb4.mono (show w.heap.size≤w.heap.size+2 by omega));clear hk4 hb4 asq;have KC:=hiQ (Af hcell2);(try clear hHeld);refine hK.out _ _ zAd (fun hHeld => ?_);clear hK K;refine eH 12 ?_;refine pG 13 fun K hK => ?_;go_simp;clear KC;generalize HEX:w1.setCell ⟨rb,i,none⟩ (.slice (some ⟨g,0,none⟩) (k+1) cap)=ah9;obtain ⟨SA,SB,R,X,Y,HX⟩:=f6 SA SB R X Y HX (eF HEX);replace hb0:=tf hb0 HEX;rw [HEX] at hput;clear HEX;(try clear hHeld);refine hK.out _ _ ?_;clear hK K;refine akJ (by kernel_rfl) ?_ _;(try clear hHeld);clear hcell2 aBQ Y;have aEM:=hiQ hput;clear hput;go_wp2_with fail;go_roundw
     case rel => exact ⟨k+1,by omega,by go_num,_,HBN.out,X.out,HX.out,⟨SA.out,SB.out,R.out,aEM.out,hb0⟩⟩
     case measure => simp [intOf];omega
    obtain rfl:k=us.length:=by omega
    have hbn:=HBM.out.row;have HBN:=hiQ hbn;clear hbn HBM;have ajW:=SB.out.e0;go_wp2_with fail;clear ajW;go_roundw
    case rel => exact ⟨i+1,by omega,by go_num,_,HBN.out,⟨SA.out,SB.out,R.out,TB.out.now,hb0⟩⟩
    case measure => simp [intOf];omega
  obtain rfl:i=ts.length:=by omega
  have hbn:=HBM.out.done;have HBN:=hiQ hbn;clear hbn HBM;have ajw:=SA.out.e0;go_upto_region 12 with fail;clear ajw;have avf:ayq w wr A A' ts.length us.length c c' gR rb M:=⟨SA.out,SB.out,R.out,TB.out.now,hb0⟩
  go_loopg [12] (2*M.cnt+1) (fun gk s12 wr => ∃ (ch:Bool) (M:Tab),s12 = .bool ch∧gk=2*M.cnt+(if ch then 1 else 0)∧aqV ts us M∧(ch=false→aly ts us M ts.length 0)∧ayq w wr A A' ts.length us.length c c' gR rb M)
  case atStart => exact ⟨true,M,rfl,rfl,HBN.out,fun h => (by cases h),avf⟩
  case round =>
   clear avf HBN SA SB R TB hb0;obtain ⟨ch,M,rfl,hgk,hinv,asV,Ai⟩:=hrel;cases ch with
   | false =>
    have hb0:=Ai.b;have SA:=Ai.sa;have SB:=Ai.sb;have R:=Ai.r;have hTA:=Ai.t;replace SA:=hiQ SA;replace SB:=hiQ SB;replace R:=hiQ R;have TB:=hiQ (Kept.tab hTA);clear hTA;have hfin:=avg hinv.2.1 hinv.2.2 (asV rfl);have HFI:=hiQ hfin;have HSH:=hiQ hinv.1;clear hfin hinv asV hgk;have iV:=R.out.e0;go_wp2_with fail;go_ret;exact ⟨rb,_,M,rfl,Ai.t.base (by omega),HSH.out,HFI.out,hb0⟩
   | true =>
    have HGK:=hiQ hgk;have HI0:=hiQ hinv;clear asV hgk hinv;have cSA:=Ai.sa.e0;go_wp2_with fail;clear cSA;have ao2:=Ai;have HI1:=hiQ HI0.out;go_loopw [12,55] (fun s12 s55 wr2 => ∃ (i:Nat) (b:Bool) (M':Tab),i≤ts.length∧s55 = .int .i64 i∧s12 = .bool b∧aqV ts us M'∧M'.cnt≤M.cnt∧(b=true→M'.cnt+1≤M.cnt)∧(b=false→aly ts us M' i 0)∧ayq w wr2 A A' ts.length us.length c c' gR rb M') (fun _ s55 _ => ts.length - (intOf s55).toNat)
    case atStart => exact ⟨0,false,M,by omega,rfl,rfl,HI1.out,Nat.le_refl _,fun h => (by cases h),fun _ a b x y hab => (by omega),ao2⟩
    case round =>
     clear Ai ao2 HI1;obtain ⟨i,bb,M1,hi,rfl,rfl,hin1,hc1,hc2,avi,Ai⟩:=hrel;have hb0:=Ai.b;have SA:=Ai.sa;have SB:=Ai.sb;have R:=Ai.r;have hTA:=Ai.t;replace SA:=hiQ SA;replace SB:=hiQ SB;replace R:=hiQ R;have TB:=hiQ (Kept.tab hTA);clear hTA Ai;have FI:=hiQ hin1;have HC2:=hiQ hc2;have HSW:=hiQ avi;clear hin1 hc2 avi;by_cases hlt:i < ts.length
     ·
      have hi1:(i:Int) < ts.length:=by omega
      have hlx:i < ts.length:=hlt;obtain ⟨b,o,hAe,hbb,hel⟩:=HT.out.elem (by omega);obtain ⟨vs,vm,hcs,hxa⟩:=hel i hlt;replace hcs:=hcs.below hb0 hbb;replace hxa:=hxa.keep (w':=wr) (fun p hp => (hb0).cell hp) (Nat.le_refl _);obtain ⟨x,hxe⟩ : ∃ x,x=ts[i]:=⟨_,rfl⟩
      rw [← hxe] at hcs hxa;obtain ⟨C1,l1,C2,l2,rfl,rfl,-,-⟩:=hxa.forms;obtain ⟨x0,x1,x2,x3,x4,x5,x6,x7,x8,x9⟩:=hcs;have HX:=hiQ (Kept.rd (P:=fun w B => jc w B x (.slice C1 x.syms.length l1) (.slice C2 x.ah.length l2)) hxa (hb0).size (fun _ hk => hxa.keep hk (Nat.le_refl _)));have hxi:ts[i]?=some x:=by rw [hxe];exact List.getElem?_eq_getElem hlt
      have HXI:=hiQ hxi;clear hel hxa hxe hxi;subst hAe;have ajw:=SA.out.e0;go_upto_region 17 with fail;clear ajw;refine aO (fun lZ iR X => ?_);have akV:=SA.out.here;have qA:=SB.out.here;have alj:=R.out.here;have sO:=TB.out.le;have sW:=HX.out.le;have Az:=hb0.size;obtain ⟨SA,SB,R,TB,HX⟩:=b5 SA SB R TB HX iR;replace hb0:=dT hb0 iR;clear iR;generalize wr.heap.size=g13 at *;clear x0 x1 x2 x3 x4 x5 x6 x7 x8 x9;obtain ⟨gX,rfl⟩ : ∃ g,g=g13:=⟨_,rfl⟩
      have hX0:=X.out;have ao6:ayq w lZ (some ⟨b,o,none⟩) A' ts.length us.length c c' gR rb M1:=⟨SA.out,SB.out,R.out,TB.out.now,hb0⟩
      have ah1:=HX.out;have ajW:=SB.out.e0;go_upto_region 18 with fail;clear ajW;have avj:=hiQ (fun h => HSW.out h);go_loopw [12,63] (fun s12 s63 wr2 => ∃ (k:Nat) (b0:Bool) (M':Tab),k≤us.length∧s63 = .int .i64 k∧s12 = .bool b0∧aqV ts us M'∧M'.cnt≤M.cnt∧(b0=true→M'.cnt+1≤M.cnt)∧(b0=false→aly ts us M' i k)∧Has wr2 gX 71 #[.int .i64 x.kind,.string ⟨x.name.toArray⟩,.int .i64 x.low,.int .i64 x.high,.int .i64 x.max,.slice C1 x.syms.length l1,.slice C2 x.ah.length l2,.int .i64 x.key,.int .i64 x.elem,.bool x.opn]∧Kept (fun w' => jc w' w.heap.size x (.slice C1 x.syms.length l1) (.slice C2 x.ah.length l2)) wr2 0 w.heap.size∧ayq w wr2 (some ⟨b,o,none⟩) A' ts.length us.length c c' gR rb M') (fun _ s63 _ => us.length - (intOf s63).toNat)
      case atStart => exact ⟨0,bb,M1,by omega,rfl,rfl,FI.out,hc1,HC2.out,avj.out,hX0,ah1,ao6⟩
      case round =>
       clear SA SB R TB X HX ao6 hX0 ah1 hb0 FI HC2 HSW avj hc1;obtain ⟨k,bb,M2,hk,rfl,rfl,hin2,hc1,hc2,amW,X,hHX,Ai⟩:=hrel;have hb0:=Ai.b;have SA:=Ai.sa;have SB:=Ai.sb;have R:=Ai.r;have hTA:=Ai.t;replace SA:=hiQ SA;replace SB:=hiQ SB;replace R:=hiQ R;have TB:=hiQ (Kept.tab hTA);clear hTA Ai;have HX:=hiQ (hHX);clear hHX;replace X:=hiQ X;have FI:=hiQ hin2;have HC2:=hiQ hc2;have HSW:=hiQ amW;clear hin2 hc2 amW;by_cases hltk:k < us.length
       ·
        have hi2:(k:Int) < us.length:=by omega
        have hly:k < us.length:=hltk;obtain ⟨ba2,oa2,hAe,hbb,hel⟩:=HU.out.elem (by omega);obtain ⟨vs,vm,hcs,hxa⟩:=hel k hltk;replace hcs:=hcs.below hb0 hbb;replace hxa:=hxa.keep (w':=wr) (fun p hp => (hb0).cell hp) (Nat.le_refl _);obtain ⟨y,hye⟩ : ∃ x,x=us[k]:=⟨_,rfl⟩
        rw [← hye] at hcs hxa;obtain ⟨D1,m1,D2,m2,rfl,rfl,-,-⟩:=hxa.forms;obtain ⟨y0,y1,y2,y3,y4,y5,y6,y7,y8,y9⟩:=hcs;have HY:=hiQ (Kept.rd (P:=fun w B => jc w B y (.slice D1 y.syms.length m1) (.slice D2 y.ah.length m2)) hxa (hb0).size (fun _ hk => hxa.keep hk (Nat.le_refl _)));have hyi:us[k]?=some y:=by rw [hye];exact List.getElem?_eq_getElem hltk
        have HYI:=hiQ hyi;clear hel hxa hye hyi;subst hAe;have ajW:=SB.out.e0;go_upto_region 20 with fail;clear ajW;refine aO (fun jU iO Y => ?_);have Es:=SA.out.here;have sJ:=SB.out.here;have uP:=R.out.here;have sN:=X.out.here;have uQ:=TB.out.le;have sK:=HX.out.le;have uO:=HY.out.le;have uh:=hb0.size;obtain ⟨SA,SB,R,X,TB,HX,HY⟩:=b7 SA SB R X TB HX HY iO;replace hb0:=dT hb0 iO;clear iO;generalize wr.heap.size=g22 at *;clear y0 y1 y2 y3 y4 y5 y6 y7 y8 y9;obtain ⟨gY,rfl⟩ : ∃ g,g=g22:=⟨_,rfl⟩
        have hiM:i < M2.length:=by rw [FI.out.1.1];exact hlx
        have hkM:k < M2[i].length:=by rw [FI.out.1.2];exact hly
        have aoi:M2.at_ i k=M2[i][k]:=by simp [Tab.at_,List.getD,hiM,hkM]
        obtain ⟨u,hrow⟩:=TB.out.now.row hiM;obtain ⟨rg,cu,rfl,axo,axp,auW,hbc,hbf⟩:=hrow.pos hkM;have KC:=hiQ (Af hrow.cell);have KB:=hiQ (Af hbc);have aGW:gR < jU.heap.size∧gX < jU.heap.size∧gY < jU.heap.size:=⟨R.out.here,X.out.here,Y.out.here⟩
        have hd0:decide ((i:Int) < 0)=false:=by simp
        have hd1:decide (ts.length≤i)=false:=by simpa using hlx
        have hd2:decide ((k:Int) < 0)=false:=by simp
        have hd3:decide (M2[i].length≤k)=false:=by simpa using hkM
        have aEN:(k:Int) < M2[i].length:=by omega
        have hiT:(i:Int) < ts.length:=by omega
        clear hrow hbc hbf;obtain ⟨bt,hbt⟩ : ∃ bt,bt=M2[i][k]:=⟨_,rfl⟩
        rw [← hbt] at KB aoi;have HAT:=hiQ aoi;have hln:M2[i].length=us.length:=FI.out.1.2 i hiM;rw [hln] at KC hd3 aEN;clear aoi hbt hln;cases bt with
        | false =>
         have hsw:=fun h => (HSW.out h).next HXI.out HYI.out (fun h2 => by rw [HAT.out] at h2;cases h2);have aqt:=hiQ hsw;clear hsw HSW;have iV:=R.out.e0;refine wp_region_held_drew (S:=(fun w' => w'.cell? ⟨gR,0,none⟩=some (.slice (some ⟨rb,0,none⟩) ts.length ts.length)∧(w'.cell? ⟨rb,i,none⟩=some (.slice (some ⟨rg,0,none⟩) us.length cu))∧(w'.cell? ⟨rg,k,none⟩=some (.bool false)))) (by kernel_rfl) ⟨iV,(KC.out.now),(KB.out.now)⟩ (fun hHeld => ?_);clear iV;have OV:Below jU.heap.size jU (jU.drew):=(Below.refl _ _).drew;obtain ⟨SA,SB,R,X,Y,TB,HX,HY,KC⟩:=b9 SA SB R X Y TB HX HY KC OV;replace KB:=b1 KB OV;replace hb0:=dT hb0 OV;clear OV;generalize jU.drew=zy at *;refine tk 0 ?_;refine tk 1 ?_;refine tk 2 ?_;refine tk 3 ?_;refine tk 4 ?_;refine tk 5 ?_;refine tk 6 ?_;refine tk 7 ?_;refine tks 8 ?_;simp only [aF];refine tks 9 ?_;simp only [aF];refine tks 10 ?_;simp only [aF];refine tks 11 ?_;simp only [aF];refine tks 12 ?_;simp only [aF];refine tks 13 ?_;simp only [aF];refine tks 14 ?_;simp only [aF];refine tk 15 ?_;refine wpAnyH_done (by kernel_rfl) ?_ _;(try clear hHeld);clear Y HY KC KB;exact zFd
        | true =>
         have hal:Alike x y:=by
          obtain ⟨x',y',hx',hy',ha⟩:=FI.out.2.2 i k HAT.out;rw [HXI.out] at hx';injection hx' with hx';rw [HYI.out] at hy';injection hy' with hy';subst hx';subst hy';exact ha
         have heq:=awP M2 x y (aup hal);have TN:=hiQ heq;have hxm:x ∈ ts:=List.mem_of_getElem? HXI.out;have hym:y ∈ us:=List.mem_of_getElem? HYI.out;have hux:(bn x).length≤1000000:=arU (HM1.out x hxm);have huy:(bn y).length≤1000000:=arU (EC.out y hym);have hmx:=HM1.out x hxm;have hmy:=EC.out y hym;have HIX:=hiQ (HI1.out x hxm);have HIY:=hiQ (HI2.out y hym);have hsh2:M2.shape ts.length us.length:=FI.out.1;clear heq hal hxm hym;have iV:=R.out.e0;obtain ⟨aK,bJ,bY,bZ,dL,eX,bU,dD,dM,dU⟩:=X.out.c10;obtain ⟨kT,kU,kV,kW,kX,mD,lJ,mF,wS,wU⟩:=Y.out.c10;refine wp_region_held_drew (S:=(fun w' => w'.cell? ⟨gR,0,none⟩=some (.slice (some ⟨rb,0,none⟩) ts.length ts.length)∧w'.cell? ⟨gX,0,none⟩=some (.int .i64 x.kind)∧w'.cell? ⟨gX,1,none⟩=some (.string ⟨x.name.toArray⟩)∧w'.cell? ⟨gX,2,none⟩=some (.int .i64 x.low)∧w'.cell? ⟨gX,3,none⟩=some (.int .i64 x.high)∧w'.cell? ⟨gX,4,none⟩=some (.int .i64 x.max)∧w'.cell? ⟨gX,5,none⟩=some (.slice C1 x.syms.length l1)∧w'.cell? ⟨gX,6,none⟩=some (.slice C2 x.ah.length l2)∧w'.cell? ⟨gX,7,none⟩=some (.int .i64 x.key)∧w'.cell? ⟨gX,8,none⟩=some (.int .i64 x.elem)∧w'.cell? ⟨gX,9,none⟩=some (.bool x.opn)∧w'.cell? ⟨gY,0,none⟩=some (.int .i64 y.kind)∧w'.cell? ⟨gY,1,none⟩=some (.string ⟨y.name.toArray⟩)∧w'.cell? ⟨gY,2,none⟩=some (.int .i64 y.low)∧w'.cell? ⟨gY,3,none⟩=some (.int .i64 y.high)∧w'.cell? ⟨gY,4,none⟩=some (.int .i64 y.max)∧w'.cell? ⟨gY,5,none⟩=some (.slice D1 y.syms.length m1)∧w'.cell? ⟨gY,6,none⟩=some (.slice D2 y.ah.length m2)∧w'.cell? ⟨gY,7,none⟩=some (.int .i64 y.key)∧w'.cell? ⟨gY,8,none⟩=some (.int .i64 y.elem)∧w'.cell? ⟨gY,9,none⟩=some (.bool y.opn)∧(w'.cell? ⟨rb,i,none⟩=some (.slice (some ⟨rg,0,none⟩) us.length cu))∧(w'.cell? ⟨rg,k,none⟩=some (.bool true)))) (by kernel_rfl) ⟨iV,aK,bJ,bY,bZ,dL,eX,bU,dD,dM,dU,kT,kU,kV,kW,kX,mD,lJ,mF,wS,wU,(KC.out.now),(KB.out.now)⟩ (fun hHeld => ?_)
         clear iV aK bJ bY bZ dL eX bU dD dM dU kT kU kV kW kX mD lJ mF wS wU;have OV:Below jU.heap.size jU (jU.drew):=(Below.refl _ _).drew;obtain ⟨SA,SB,R,X,Y,TB,HX,HY,KC⟩:=b9 SA SB R X Y TB HX HY KC OV;replace KB:=b1 KB OV;replace hb0:=dT hb0 OV;clear OV;generalize jU.drew=zy at *;refine tk 0 ?_;refine tk 1 ?_;refine tk 2 ?_;refine tk 3 ?_;refine tk 4 ?_;refine tk 5 ?_;refine tk 6 ?_;refine tk 7 ?_;refine tk 8 ?_;refine tk 10 ?_;refine tk 12 ?_;refine iE 9 fun K hK => ?_;go_simp;((with_reducible refine (arV x _ _ _ (by omega) (HX.out.now.up HX.out.le)).mono ?_);rintro e wR ⟨v1,rfl,hu1,Z8⟩);obtain ⟨SA,SB,R,X,Y,TB,HX,HY,KC⟩:=b9 SA SB R X Y TB HX HY KC Z8;replace KB:=b1 KB Z8;replace hb0:=dT hb0 Z8;clear Z8;have U1:=hiQ (Kept.rd (P:=fun w B => Rd w B 2 v1 (bn x).length (LY (bn x))) (Rd.uX hu1) (Nat.le_refl _) (fun _ hk => (Rd.uX hu1).keep hk));clear hu1;(try clear hHeld);refine hK.out _ _ zAe (fun hHeld => ?_);clear hK K;refine iE 11 fun K hK => ?_;go_simp;((with_reducible refine (arV y _ _ _ (by omega) (HY.out.now.up HY.out.le)).mono ?_);rintro e vT ⟨v2,rfl,hu2,adX⟩);obtain ⟨SA,SB,R,X,Y,TB,HX,HY,KC⟩:=b9 SA SB R X Y TB HX HY KC adX;obtain ⟨KB,U1⟩:=b2 KB U1 adX;replace hb0:=dT hb0 adX;clear adX;have U2:=hiQ (Kept.rd (P:=fun w B => Rd w B 2 v2 (bn y).length (LY (bn y))) (Rd.uX hu2) (Nat.le_refl _) (fun _ hk => (Rd.uX hu2).keep hk));clear hu2;(try clear hHeld);refine hK.out _ _ zAe (fun hHeld => ?_);clear hK K;refine iE 13 fun K hK => ?_;go_simp;((with_reducible refine (aya M2 (bn x) (bn y) ts.length us.length ts.length (w.heap.size+2) gR rb v1 v2 _ hsh2 hux huy HIX.out HIY.out (U1.out.now.mono U1.out.le) (U2.out.now.mono U2.out.le) R.out.e0 R.out.here TB.out.now).mono ?_);rintro e zl ⟨rfl,Fz⟩)
         obtain ⟨SA,SB,R,X,Y,TB,HX,HY,KC⟩:=b9 SA SB R X Y TB HX HY KC Fz;obtain ⟨KB,U1,U2⟩:=b3 KB U1 U2 Fz;replace hb0:=dT hb0 Fz;clear Fz U1 U2;(try clear hHeld);refine hK.out _ _ zAe (fun hHeld => ?_);clear hK K;refine tk 14 ?_;refine tk 15 ?_;refine wpAnyH_done (by kernel_rfl) ?_ _;(try clear hHeld);clear Y HY;rw [TN.out];clear HIX HIY hux huy hmx hmy TN hsh2;cases hrl:aoX M2 (outs x) (outs y) with
         | true =>
          have hsw:=fun h => (HSW.out h).next HXI.out HYI.out (fun _ => hrl);have aqt:=hiQ hsw;clear hsw HSW hrl KC KB;exact zFd
         | false =>
          have avl:aqV ts us (M2.off i k):=⟨Tab.aur FI.out.1 i k,FI.out.2.1.off HXI.out HYI.out hrl,FI.out.2.2.off i k⟩
          have hcn:=Tab.awT HAT.out;have azH:=hiQ avl;clear avl hrl HSW;have hrow:=TB.out.now.rowAt hiM KC.out.now;have hset:=hrow.set rg cu k false (by rw [FI.out.1.2 i hiM]);have hoff:M2.set i (M2[i].set k false)=M2.off i k:=by unfold Tab.off;simp [List.getD,hiM]
          rw [hoff] at hset;have hrf:zl.frozen? ⟨rb,i,none⟩=false:=hrow.free;have hbf:zl.frozen? ⟨rg,k,none⟩=false:=by
           have ho:=hrow.own;rw [FI.out.1.2 i hiM] at ho;exact ho.frozenAt k
          have hbc:=KB.out.now;have hrc:=KC.out.now;have hRg:gR≠rg:=fun e => akM hrow.own R.out (by decide) rfl e;have hXg:gX≠rg:=fun e => akM hrow.own X.out (by decide) rfl e;clear hrow hoff;have iV:=R.out.e0;go_upto_region 22 with fail;clear iV hrc hbc hrf hbf KC KB TB;generalize HEX:zl.setCell ⟨rg,k,none⟩ (.bool false)=E5;obtain ⟨SA,SB,R,X,HX⟩:=f5 SA SB R X HX (eF HEX);replace hb0:=tf hb0 HEX;rw [HEX] at hset;clear HEX;have asW:=hiQ hset;clear hset;go_wp2_with fail;go_roundw
          case rel => exact ⟨k+1,true,M2.off i k,by omega,by go_num,rfl,azH.out,by omega,fun _ => by omega,fun h => (by cases h),X.out,HX.out,⟨SA.out,SB.out,R.out,asW.out,hb0⟩⟩
          case measure => simp [intOf];omega
       obtain rfl:k=us.length:=by omega
       have hsw:=fun h => (HSW.out h).row;have aqt:=hiQ hsw;clear hsw HSW;have ajW:=SB.out.e0;go_wp2_with fail;clear ajW;go_roundw
       case rel => exact ⟨i+1,bb,M2,by omega,by go_num,rfl,FI.out,hc1,HC2.out,aqt.out,⟨SA.out,SB.out,R.out,TB.out.now,hb0⟩⟩
       case measure => simp [intOf];omega
     obtain rfl:i=ts.length:=by omega
     have hg:=HGK.out;have ajw:=SA.out.e0;go_wp2_with fail;clear ajw;go_roundg (2*M1.cnt+(if bb then 1 else 0))
     case measure =>
      exact zGe
     case rel => exact ⟨bb,M1,rfl,rfl,FI.out,HSW.out,⟨SA.out,SB.out,R.out,TB.out.now,hb0⟩⟩
end Go.Proofs.YtlamhkffnlgofaaGreatDoor
