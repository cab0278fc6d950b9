/- What canon.relation computes: the greatest relation of two schemas. No condition. -/
import Derived.Test.YtlamhkffnlgofaaGreatDoorAlk
import Derived.Deep.LoopGhost
set_option maxHeartbeats 800000
set_option maxRecDepth 100000
namespace Go.Proofs.YtlamhkffnlgofaaGreatDoor
open Go.ChangeShapes Go.WideShapes Go.ChangeAt Go.RowKit
def relE (M:Tab) (u v:Int × Int):Bool:=M.at_ u.2.toNat v.2.toNat
theorem awP (M:Tab) (x y:ay) (h:(bg x).length=(bg y).length):eqL (relE M) (bg x) (bg y)=aoX M (outs x) (outs y):=by
 unfold eqL aoX outs;rw [decide_eq_true h,Bool.true_and,List.zip_map,List.all_map]
 rfl
theorem asn {w:World} {b o:Nat} {l:List (Int × Int)} (hcell:∀ j u,(U0 l)[j]?=some u→w.cell? ⟨b,o+j,none⟩=some u) (k:Nat) (h:k < l.length) :
  w.cell? ⟨b,o+k*2,none⟩=some (.int .i64 l[k].1)∧w.cell? ⟨b,o+k*2+1,none⟩=some (.int .i64 l[k].2) :=
 ⟨hcell (k*2) _ (flat_get ark l k 0 h (by omega)),hcell (k*2+1) _ (flat_get ark l k 1 h (by omega))⟩
def InU (ts:List ay):Prop := ∀ x ∈ ts,∀ u ∈ bg x,0≤u.2∧u.2 < ts.length
theorem zJz {p:Prop} (h:p:=by
 refine wpAnyH_done (by kernel_rfl) ?_ _;(try clear hHeld);exact zDb):p:=h
theorem azG (M:Tab) (s1 s2:Int) (a b:Nat) (n c L gR rb:Nat) (w:World) (hn:n=M.length) (ha:a < M.length) (hb:b < M[a].length) (hr:w.cell? ⟨gR,0,none⟩=some (.slice (some ⟨rb,0,none⟩) n c)) (hgr:gR < w.heap.size) (ht:TabAt w L (.slice (some ⟨rb,0,none⟩) n c) M) :
  Calls Tryz.prog 125 #[.agg #[.int .i64 s1,.int .i64 a],.agg #[.int .i64 s2,.int .i64 b],.pointer (some ⟨gR,0,none⟩)] w (RT w (.bool (M.at_ a b))):=by
 have hat:M.at_ a b=M[a][b]:=by simp [Tab.at_,List.getD,ha,hb]
 rw [hat];obtain ⟨u,hrow⟩:=ht.row ha;obtain ⟨bb,cc,rfl,hL,hbs,hne,hcell,-⟩:=hrow.pos hb;have hc:=hrow.cell;have hrl:=(Rd.uX hrow.own)
 have hlen:b < M[a].length:=hb;have asT:rb < w.heap.size:=by
  obtain ⟨us,h1,_⟩:=ht;exact (h1.lt rb rfl).2
 have ha2:a < n:=by omega
 clear hrow ht hrl hat hn hL;generalize M[a][b]=z at *;generalize M[a].length=ln at *;have hai:(a:Int) < n:=by omega
 have hbi:(b:Int) < ln:=by omega
 have hd0:decide ((a:Int) < 0)=false:=by simp
 have hd1:decide (n≤a)=false:=by simpa using ha2
 have hd2:decide ((b:Int) < 0)=false:=by simp
 have hd3:decide (ln≤b)=false:=by simpa using hb
 have KR:=hiQ (Kept.rd (P:=fun w _ => w.cell? ⟨gR,0,none⟩=some (.slice (some ⟨rb,0,none⟩) n c)∧w.cell? ⟨rb,a,none⟩=some (.slice (some ⟨bb,0,none⟩) ln cc)∧w.cell? ⟨bb,b,none⟩=some (.bool z)) ⟨hr,hc,hcell⟩ (Nat.le_refl _) (fun _ hk => ⟨(hk ⟨gR,0,none⟩ hgr).trans hr,(hk ⟨rb,a,none⟩ asT).trans hc,(hk ⟨bb,b,none⟩ hbs).trans hcell⟩));clear hr hc hcell;go_enter Tryz.func125,Tryz.ntmps125
 go_upto_region 1 with fail;refine jg (fun wd2 hb1 X Y => ?_);replace KR:=b1 KR hb1;have hw3:=hb1;clear hb1;have bJ:=X.out.e1;have kU:=Y.out.e1;refine wp_region_held_drew (S:=(fun w' => w'.cell? ⟨w.heap.size,1,none⟩=some (.int .i64 a)∧w'.cell? ⟨w.heap.size+1,1,none⟩=some (.int .i64 b)∧(w'.cell? ⟨gR,0,none⟩=some (.slice (some ⟨rb,0,none⟩) n c))∧(w'.cell? ⟨rb,a,none⟩=some (.slice (some ⟨bb,0,none⟩) ln cc))∧(w'.cell? ⟨bb,b,none⟩=some (.bool z)))) (by kernel_rfl) ⟨bJ,kU,(KR.out.now.1),(KR.out.now.2.1),(KR.out.now.2.2)⟩ (fun hHeld => ?_);clear bJ kU;have hb4:Below wd2.heap.size wd2 (wd2.drew):=(Below.refl _ _).drew;obtain ⟨X,Y,KR⟩:=b3 X Y KR hb4;replace hw3:=dT hw3 hb4;clear hb4;generalize wd2.drew=fG at *;refine tk 0 ?_;refine tk 1 ?_;refine tk 2 ?_;refine tk 3 ?_;refine tk 4 ?_;refine tk 5 ?_;refine tk 6 ?_;refine tk 7 ?_;refine tk 8 ?_;refine tk 9 ?_;exact zJz
theorem aya (M:Tab) (xs ys:List (Int × Int)) (n m c L gR rb:Nat) (va vb:Value) (w:World) (hsh:M.shape n m) (hlx:xs.length≤1000000) (hly:ys.length≤1000000) (h1:∀ u ∈ xs,0≤u.2∧u.2 < n) (h2:∀ u ∈ ys,0≤u.2∧u.2 < m)
  (hx:Rd w w.heap.size 2 va xs.length (U0 xs)) (hy:Rd w w.heap.size 2 vb ys.length (U0 ys)) (hp:w.cell? ⟨gR,0,none⟩=some (.slice (some ⟨rb,0,none⟩) n c)) (hlt:gR < w.heap.size) (ht:TabAt w L (.slice (some ⟨rb,0,none⟩) n c) M) :
  Calls Tryz.prog 124 #[va,vb,.func (.func 125) #[] #[.pointer (some ⟨gR,0,none⟩)]] w (RT w (.bool (eqL (relE M) xs ys))):=by
 obtain ⟨A,cx,rfl,hcx⟩:=hx.form;obtain ⟨B,dy,rfl,hdy⟩:=hy.form;have HX:=hiQ hx;have HY:=hiQ hy;have Hp:=hiQ hp;have HT:=hiQ ht;have H1:=hiQ h1;have H2:=hiQ h2;have HS:=hiQ hsh;clear hx hy hp ht h1 h2 hsh;by_cases hl:xs.length=ys.length
 ·
  have HL:=hiQ hl;have hn1:((xs.length:Int) != (ys.length:Int))=false:=by simp [hl]
  have hl':(xs.length:Int)≤ys.length:=by omega
  clear hl;go_enter Tryz.func124,Tryz.ntmps124
  go_wp2
  go_loopw [17] (fun i wr => ∃ k:Nat,k≤xs.length∧i = .int .i64 k∧ajI (relE M) xs ys k∧Below w.heap.size w wr) (fun i _ => xs.length - (intOf i).toNat)
  case atStart => exact ⟨0,by omega,rfl,ajI.zero,Below.refl _ _⟩
  case round =>
   obtain ⟨k,hk,rfl,hup,hb⟩:=hrel;have Hup:=hiQ hup;clear hup;by_cases hltk:k < xs.length
   ·
    have akf:k < ys.length:=by omega
    obtain ⟨b1,o1,rfl,hbb,hcell⟩:=(HX.out.below hb).at_ (by omega);obtain ⟨c0,c1⟩:=asn hcell k hltk;obtain ⟨b2,o2,rfl,SE,hcell'⟩:=(HY.out.below hb).at_ (by omega);obtain ⟨d0,d1⟩:=asn hcell' k akf;have Hs:=hiQ (fun h => ajI.succ Hup.out hltk akf h);have Hn:=hiQ (fun h => aq4 (f:=relE M) hltk akf h);have hu1:=H1.out _ (List.getElem_mem hltk);have hu2:=H2.out _ (List.getElem_mem akf);generalize xs[k]=x at *;generalize ys[k]=y at *;obtain ⟨x1,x2⟩:=x;obtain ⟨y1,y2⟩:=y;simp only at hu1 hu2 c0 c1 d0 d1;obtain ⟨xa,rfl⟩ : ∃ a:Nat,x2=(a:Int):=⟨x2.toNat,by omega⟩
    obtain ⟨ya,rfl⟩ : ∃ a:Nat,y2=(a:Int):=⟨y2.toNat,by omega⟩
    have hi1:(k:Int) < xs.length:=by omega
    have hi2:(k:Int) < ys.length:=by omega
    have hbs:=hb.size;have d0':=fun o => ((Below.refl wr.heap.size wr).alloc (Nat.le_refl _) o).cell (p:=⟨b2,o2+k*2,none⟩) (Nat.lt_of_lt_of_le SE hbs) |>.trans d0
    have d1':=fun o => ((Below.refl wr.heap.size wr).alloc (Nat.le_refl _) o).cell (p:=⟨b2,o2+k*2+1,none⟩) (Nat.lt_of_lt_of_le SE hbs) |>.trans d1
    have h2b:=Oe wr;have hxa:xa < M.length:=by rw [HS.out.1];omega
    have hya:ya < M[xa].length:=by rw [HS.out.2];omega
    clear hcell hcell' d0 d1;go_wp2_with fail;have hbo:=fun o1 o2 => hb.trans ((h2b o1 o2).mono hb.size);refine (azG M x1 y1 xa ya n c L gR rb _ HS.out.1.symm hxa hya (((hbo _ _).cell (p:=⟨gR,0,none⟩) hlt).trans Hp.out) (Nat.lt_of_lt_of_le hlt (hbo _ _).size) (HT.out.heap fun q _ h => (hbo _ _).block q h)).mono ?_;rintro e w2 ⟨rfl,hb2⟩;have Cm:=(hbo _ _).trans (hb2.mono (hbo _ _).size);clear hb2 h2b d0' d1' hb hbo;have hre:relE M (x1,(xa:Int)) (y1,(ya:Int))=M.at_ xa ya:=rfl;cases hsv:M.at_ xa ya with
    | true =>
     have VQ:=hiQ (Hs.out (hre.trans hsv));clear hsv hre;exact zCq
    | false =>
     have VQ:=hiQ (Hn.out (hre.trans hsv));clear hsv hre;exact zEc
   exact zEd
 have hn1:((xs.length:Int) != (ys.length:Int))=true:=by rw [bne_iff_ne];omega
 have HL:=hiQ (aq5 (f:=relE M) hl);clear hl;go_enter Tryz.func124,Tryz.ntmps124
 exact zFt
end Go.Proofs.YtlamhkffnlgofaaGreatDoor
