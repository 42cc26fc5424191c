/- Of the two pictures that the reference draws from a list of at most 1048576 bytes (a longer one is let by): the program's ImageLike and ImageOk answer as the reference, ImageLike does so the other way round; each picture that is ok looks as itself; two that look the same do so upside down; and of two that can be made ones of red, green and blue they look the same just if these are the same. -/
import Derived.Test.YtagbmaapahhmpaaHFnImageLikex18
import Derived.Test.YtagbmaapahhmpaaThNum
import Derived.Test.YtagbmaapahhmpaaThXor
import Derived.Test.YtagbmaapahhmpaaThImg
import Derived.Test.YtagbmaapahhmpaaThGen
import Derived.Test.YtagbmaapahhmpaaThFlip
namespace Go.Proofs.Ytagbmaapahhmpaa.Pure
open Go.RowKit Go.Proofs.Ytagbmaapahhmpaa.PFnImageLike Go.Proofs.YtagbmaapahhmpaaW.PrintWords Go.Proofs.YtagbmaapahhmpaaW.PrintLast Go.Proofs.YtagbmaapahhmpaaW.PrintMore Go.Proofs.Ytagbmaapahhmpaa.Th
set_option linter.unusedVariables false
set_option linter.unusedSimpArgs false

/-- A drawing's bytes. -/
def Code (b:List Int):Prop:=b.length≤2000∧∀ x ∈ b,0≤x∧x≤255
theorem l1Open_f (l:List Int):spec_l1Open.f l=some (l.take 2000,0):=by
 unfold spec_l1Open.f
 by_cases h:(l.length:Int) > 2000
 ·rw [if_pos h,if_pos (by omega)]
 ·rw [if_neg h,List.take_of_length_le (by omega)]
theorem code_open {l:List Int} (h:∀ x ∈ l,(Lit.int .u8 x).wf=true):Code (l.take 2000):=by
 refine ⟨by rw [List.length_take];omega,fun x hx=>?_⟩
 have:=h x (List.mem_of_mem_take hx)
 simp [Lit.wf,IntKind.min,IntKind.max,IntKind.bits,IntKind.signed] at this
 omega
theorem code_rd {b:List Int} (h:Code b) (i:Int):0≤rd b i∧rd b i≤255:=by
 rcases rd_mem_or b i with h1|h1
 ·exact h.2 _ h1
 ·omega
/-- What is picked is there, and the place is one further. -/
theorem pick_ev {b:List Int} (hb:Code b) {p n:Int} (hp:0≤p∧p≤1099511627776) (hn:n≤1099511627776):∃ v:Int,(0≤v∧(v < n ∨ n < 1∧v=0))∧Ev (fun k=>spec_l1Rd_pick.f k b p n) (v,p+1):=by
 unfold spec_l1Rd_pick.f
 rw [w64 (x:=p+1) (by omega)]
 by_cases h1:n < 1
 ·refine ⟨0,⟨by omega,.inr ⟨h1,rfl⟩⟩,1,fun k hk=>?_⟩
  try dsimp only
  obtain ⟨m,rfl⟩:∃ m,k=m+1:=⟨k - 1,by omega⟩
  try dsimp only
  rw [if_pos h1,spec_l1Rd_pick.j0,if_pos rfl]
 by_cases h2:b.length=0
 ·refine ⟨0,⟨by omega,.inl (by omega)⟩,1,fun k hk=>?_⟩
  try dsimp only
  obtain ⟨m,rfl⟩:∃ m,k=m+1:=⟨k - 1,by omega⟩
  try dsimp only
  rw [if_neg h1,spec_l1Rd_pick.j0,if_pos (by simp [h2])]
 have e0:wrap64 (p+1 - 1)=p:=by rw [w64 (by omega)];omega
 by_cases h3:p < b.length
 ·have hr:=code_rd hb p
  refine ⟨rd b p % n,⟨Int.emod_nonneg _ (by omega),.inl (Int.emod_lt_of_pos _ (by omega))⟩,1,fun k hk=>?_⟩
  try dsimp only
  obtain ⟨m,rfl⟩:∃ m,k=m+1:=⟨k - 1,by omega⟩
  try dsimp only
  rw [if_neg h1,spec_l1Rd_pick.j0,if_neg (by simpa using h2),e0,if_pos h3,if_pos hp.1,if_neg (by omega),w64 (by omega),tmod_pos hr.1]
 ·have hl:=hb.1
  have m1:0≤p % (b.length:Int)∧p % (b.length:Int) < b.length:=⟨Int.emod_nonneg _ (by omega),Int.emod_lt_of_pos _ (by omega)⟩
  have m2:0≤(p * 7+3) % (b.length:Int)∧(p * 7+3) % (b.length:Int) < b.length:=⟨Int.emod_nonneg _ (by omega),Int.emod_lt_of_pos _ (by omega)⟩
  have r1:=code_rd hb (p % (b.length:Int))
  have r2:=code_rd hb ((p * 7+3) % (b.length:Int))
  have q1:0≤p / (b.length:Int):=Int.ediv_nonneg hp.1 (by omega)
  have q2:p / (b.length:Int)≤p:=Int.ediv_le_self _ hp.1
  obtain ⟨X,hX⟩:∃ X,X=rd b (p % (b.length:Int)) * 131+rd b ((p * 7+3) % (b.length:Int)) * 1117+p * 29+p / (b.length:Int) * 53:=⟨_,rfl⟩
  have bX:0≤X∧X≤4611686018427387904:=by omega
  have hx:=xor_b (x:=X) (y:=X / 64) (by omega) (by omega)
  refine ⟨Go.bits .xor .i64 X (X / 64) % n,⟨Int.emod_nonneg _ (by omega),.inl (Int.emod_lt_of_pos _ (by omega))⟩,1,fun k hk=>?_⟩
  try dsimp only
  obtain ⟨m,rfl⟩:∃ m,k=m+1:=⟨k - 1,by omega⟩
  try dsimp only
  rw [if_neg h1,spec_l1Rd_pick.j0,if_neg (by simpa using h2),e0,if_neg h3,if_neg (by omega)]
  rw [w64 (x:=p * 7) (by omega),w64 (x:=p * 7+3) (by omega),tmod_pos (a:=p) hp.1,tmod_pos (a:=p * 7+3) (by omega),tdiv_pos (a:=p) hp.1]
  rw [if_pos m1.1,if_pos m1.2,if_pos m2.1,if_pos m2.2,if_neg (by omega)]
  rw [w64 (x:=rd b (p % (b.length:Int))) (by omega),w64 (x:=rd b ((p * 7+3) % (b.length:Int))) (by omega),w64 (x:=p / (b.length:Int)) (by omega)]
  rw [w64 (x:=rd b (p % (b.length:Int)) * 131) (by omega),w64 (x:=rd b ((p * 7+3) % (b.length:Int)) * 1117) (by omega),w64 (x:=p * 29) (by omega),w64 (x:=p / (b.length:Int) * 53) (by omega)]
  rw [w64 (x:=rd b (p % (b.length:Int)) * 131+rd b ((p * 7+3) % (b.length:Int)) * 1117) (by omega),w64 (x:=rd b (p % (b.length:Int)) * 131+rd b ((p * 7+3) % (b.length:Int)) * 1117+p * 29) (by omega),w64 (x:=rd b (p % (b.length:Int)) * 131+rd b ((p * 7+3) % (b.length:Int)) * 1117+p * 29+p / (b.length:Int) * 53) (by omega),← hX]
  rw [tdiv_pos (by omega),w64 (x:=X / 64) (by omega),tmod_pos hx.1]
theorem l1Pow_l0_ev (n:Nat) (hn:n≤62):∀ d i:Nat,i+d=n → Ev (fun k=>spec_l1Pow.l0 k (n:Int) (P2 i) (i:Int)) (P2 n):=by
 intro d
 induction d with
 | zero =>
  intro i hi
  refine ⟨1,fun k hk=>?_⟩
  try dsimp only
  obtain ⟨m,rfl⟩:∃ m,k=m+1:=⟨k - 1,by omega⟩
  rw [spec_l1Pow.l0,if_neg (by omega),show i=n by omega]
 | succ d ih =>
  intro i hi
  obtain ⟨K,hK⟩:=ih (i+1) (by omega)
  try dsimp only at hK
  refine ⟨K+1,fun k hk=>?_⟩
  try dsimp only
  obtain ⟨m,rfl⟩:∃ m,k=m+1:=⟨k - 1,by omega⟩
  have hm:=hK m (by omega)
  have hb:=P2_62b (n:=i) (by omega)
  have hb':=P2_62b (n:=i+1) (by omega)
  have hs:=P2_succ i
  rw [spec_l1Pow.l0,if_pos (by omega),w64 (by omega),w64 (by omega),show P2 i * 2=P2 (i+1) by omega,show (i:Int)+1=((i+1:Nat):Int) by omega]
  exact hm
theorem l1Pow_ev (n:Nat) (hn:n≤62):Ev (fun k=>spec_l1Pow.f k (n:Int)) (P2 n):=l1Pow_l0_ev n hn n 0 (by omega)
theorem l1Pow_evI (n:Int) (h0:0≤n) (hn:n≤62):Ev (fun k=>spec_l1Pow.f k n) (P2 n.toNat):=by
 have h:=l1Pow_ev n.toNat (by omega)
 rw [Int.toNat_of_nonneg h0] at h
 exact h
def GoodI (r:Int × Int × Int × Int × List Int × List Int × Int):Prop:=r.2.2.2.2.1.length≤256∧(1≤r.2.2.2.2.2.1.length∧r.2.2.2.2.2.1.length≤400)∧(0≤r.2.2.2.2.2.2∧r.2.2.2.2.2.2≤1000000)
theorem imgPts_ev {b:List Int} (hb:Code b) (most:Int) (hm:1≤most) (kd dd w h:Int) (N:Nat) (hN:1≤N∧N≤400) (hw:wrap64 (w * h)=(N:Int)) (c:List Int) (hc:c.length≤256) :
  ∀ d i:Nat,i+d=N → ∀ (pts:List Int) (p v:Int),pts.length=i → (0≤p∧p≤10000+5 * i) → ∃ r,GoodI r∧Ev (fun k=>spec_l14Image.l1 k most v (i:Int) b p kd dd w h c pts) r:=by
 intro d
 induction d with
 | zero =>
  intro i hi pts p v hp hpp
  refine ⟨(kd,dd,w,h,c,pts,p),⟨hc,by dsimp only;omega,by dsimp only;omega⟩,1,fun k hk=>?_⟩
  try dsimp only
  obtain ⟨m,rfl⟩:∃ m,k=m+1:=⟨k - 1,by omega⟩
  try dsimp only
  rw [spec_l14Image.l1,hw,if_neg (by omega)]
 | succ d ih =>
  intro i hi pts p v hp hpp
  have hj:∀ (v p:Int),(0≤p∧p≤10000+5 * i+4) → ∃ r,GoodI r∧Ev (fun k=>spec_l14Image.j6 k most v (i:Int) b p kd dd w h c pts) r:=by
   intro v p hp9
   by_cases h3:kd=3
   ·obtain ⟨u,hu,K1,h1⟩:=pick_ev hb (p:=p) (n:=2) (by omega) (by omega)
    try dsimp only at h1
    try dsimp only at h1
    obtain ⟨v2,hv2⟩:∃ v2,v2=if u=0 then wrap64 (wrap64 (wrap64 (Int.tdiv v 256) * 256)+255) else v:=⟨_,rfl⟩
    obtain ⟨r,hr,K2,h2⟩:=ih (i+1) (by omega) (pts ++ [v2]) (p+1) v2 (by simp;omega) (by omega)
    try dsimp only at h2
    try dsimp only at h2
    refine ⟨r,hr,K1+K2+1,fun k hk=>?_⟩
    try dsimp only
    obtain ⟨m,rfl⟩:∃ m,k=m+1:=⟨k - 1,by omega⟩
    have hm2:=h2 m (by omega)
    rw [show ((i+1:Nat):Int)=(i:Int)+1 by omega] at hm2
    try dsimp only
    rw [spec_l14Image.j6,if_pos h3,h1 m (by omega),Option.bind_some]
    try dsimp only
    by_cases hu0:u=0
    ·rw [if_pos hu0] at hv2
     rw [if_pos hu0,if_pos (by omega),w64 (x:=(i:Int)+1) (by omega),← hv2]
     exact hm2
    ·rw [if_neg hu0] at hv2
     rw [if_neg hu0,if_pos (by omega),w64 (x:=(i:Int)+1) (by omega),← hv2]
     exact hm2
   ·obtain ⟨r,hr,K2,h2⟩:=ih (i+1) (by omega) (pts ++ [v]) p v (by simp;omega) (by omega)
    try dsimp only at h2
    try dsimp only at h2
    refine ⟨r,hr,K2+1,fun k hk=>?_⟩
    try dsimp only
    obtain ⟨m,rfl⟩:∃ m,k=m+1:=⟨k - 1,by omega⟩
    have hm2:=h2 m (by omega)
    rw [show ((i+1:Nat):Int)=(i:Int)+1 by omega] at hm2
    try dsimp only
    rw [spec_l14Image.j6,if_neg h3,if_pos (by omega),w64 (x:=(i:Int)+1) (by omega)]
    exact hm2
  obtain ⟨u,hu,K1,h1⟩:=pick_ev hb (p:=p) (n:=3) (by omega) (by omega)
  try dsimp only at h1
  try dsimp only at h1
  by_cases hu0:u > 0
  ·obtain ⟨u2,hu2,K2,h2⟩:=pick_ev hb (p:=p+1) (n:=256) (by omega) (by omega)
   try dsimp only at h2
   obtain ⟨u3,hu3,K3,h3⟩:=pick_ev hb (p:=p+1+1) (n:=3) (by omega) (by omega)
   try dsimp only at h3
   obtain ⟨u4,hu4,K4,h4⟩:=pick_ev hb (p:=p+1+1+1) (n:=256) (by omega) (by omega)
   try dsimp only at h4
   try dsimp only at h2 h3 h4
   obtain ⟨r,hr,K5,h5⟩:=hj (Int.tmod (wrap64 (wrap64 (wrap64 (u2 * 16777216)+wrap64 (u3 * 65536))+u4)) most) (p+1+1+1+1) (by omega)
   try dsimp only at h5
   try dsimp only at h5
   refine ⟨r,hr,K1+K2+K3+K4+K5+1,fun k hk=>?_⟩
   try dsimp only
   obtain ⟨m,rfl⟩:∃ m,k=m+1:=⟨k - 1,by omega⟩
   try dsimp only
   rw [spec_l14Image.l1,hw,if_pos (by omega),h1 m (by omega),Option.bind_some]
   try dsimp only
   rw [if_pos hu0,h2 m (by omega),Option.bind_some]
   try dsimp only
   rw [h3 m (by omega),Option.bind_some]
   try dsimp only
   rw [h4 m (by omega),Option.bind_some]
   try dsimp only
   rw [if_neg (by omega)]
   exact h5 m (by omega)
  ·obtain ⟨r,hr,K5,h5⟩:=hj v (p+1) (by omega)
   try dsimp only at h5
   try dsimp only at h5
   refine ⟨r,hr,K1+K5+1,fun k hk=>?_⟩
   try dsimp only
   obtain ⟨m,rfl⟩:∃ m,k=m+1:=⟨k - 1,by omega⟩
   try dsimp only
   rw [spec_l14Image.l1,hw,if_pos (by omega),h1 m (by omega),Option.bind_some]
   try dsimp only
   rw [if_neg hu0]
   exact h5 m (by omega)
theorem imgJ3_ev {b:List Int} (hb:Code b) (kd dd w h:Int) (hd:0≤dd∧dd≤62) (hw:1≤w∧w≤20) (hh:1≤h∧h≤20) (c:List Int) (hc:c.length≤256) (hk:kd=4 → 1≤c.length) {p:Int} (hp:0≤p∧p≤10000):∃ r,GoodI r∧Ev (fun k=>spec_l14Image.j3 k b p kd dd w h c) r:=by
 have hwh:=mul20 hw hh
 obtain ⟨N,hN⟩:∃ N:Nat,(N:Int)=w * h:=⟨(w * h).toNat,by omega⟩
 obtain ⟨K1,h1⟩:=l1Pow_evI dd hd.1 hd.2
 try dsimp only at h1
 try dsimp only at h1
 have hpow:1≤P2 dd.toNat:=P2_pos _
 obtain ⟨most,hmost⟩:∃ most:Int,most=if kd=4 then (c.length:Int) else P2 dd.toNat:=⟨_,rfl⟩
 have hm1:1≤most:=by
  rw [hmost];split
  ·rename_i e;have:=hk e;omega
  ·exact hpow
 obtain ⟨r,hr,K2,h2⟩:=imgPts_ev hb most hm1 kd dd w h N (by omega) (by rw [w64 (by omega),hN]) c hc N 0 (by omega) [] p 0 rfl (by omega)
 try dsimp only at h2
 try dsimp only at h2
 refine ⟨r,hr,K1+K2+2,fun k hk=>?_⟩
 try dsimp only
 obtain ⟨m,rfl⟩:∃ m,k=m+2:=⟨k - 2,by omega⟩
 have hm2:=h2 m (by omega)
 try dsimp only
 rw [spec_l14Image.j3,h1 (m+1) (by omega),Option.bind_some]
 by_cases e:kd=4
 ·rw [if_pos e] at hmost
  rw [if_pos e,spec_l14Image.j4,← hmost];exact hm2
 ·rw [if_neg e] at hmost
  rw [if_neg e,spec_l14Image.j4,← hmost];exact hm2
theorem imgCols_ev {b:List Int} (hb:Code b) (kd dd w h:Int) (hd:0≤dd∧dd≤62) (hw:1≤w∧w≤20) (hh:1≤h∧h≤20) (n:Nat) (hn:1≤n∧n≤256) :
  ∀ d i:Nat,i+d=n → ∀ (c:List Int) (p:Int),c.length=i → (0≤p∧p≤100+3 * i) → ∃ r,GoodI r∧Ev (fun k=>spec_l14Image.l0 k (n:Int) (i:Int) b p kd dd w h c) r:=by
 intro d
 induction d with
 | zero =>
  intro i hi c p hc hp
  obtain ⟨r,hr,K1,h1⟩:=imgJ3_ev hb kd dd w h hd hw hh c (by omega) (fun _=>by omega) (p:=p) (by omega)
  try dsimp only at h1
  try dsimp only at h1
  refine ⟨r,hr,K1+1,fun k hk=>?_⟩
  try dsimp only
  obtain ⟨m,rfl⟩:∃ m,k=m+1:=⟨k - 1,by omega⟩
  try dsimp only
  rw [spec_l14Image.l0,if_neg (by omega)]
  exact h1 m (by omega)
 | succ d ih =>
  intro i hi c p hc hp
  obtain ⟨u1,hu1,K1,h1⟩:=pick_ev hb (p:=p) (n:=256) (by omega) (by omega)
  try dsimp only at h1
  obtain ⟨u2,hu2,K2,h2⟩:=pick_ev hb (p:=p+1) (n:=256) (by omega) (by omega)
  try dsimp only at h2
  obtain ⟨u3,hu3,K3,h3⟩:=pick_ev hb (p:=p+1+1) (n:=9) (by omega) (by omega)
  try dsimp only at h3
  try dsimp only at h1 h2 h3
  obtain ⟨r,hr,K4,h4⟩:=ih (i+1) (by omega) (c ++ [wrap64 (wrap64 (wrap64 (u1 * 65536)+wrap64 (u2 * 256))+u3)]) (p+1+1+1) (by simp;omega) (by omega)
  try dsimp only at h4
  try dsimp only at h4
  refine ⟨r,hr,K1+K2+K3+K4+1,fun k hk=>?_⟩
  try dsimp only
  obtain ⟨m,rfl⟩:∃ m,k=m+1:=⟨k - 1,by omega⟩
  have hm2:=h4 m (by omega)
  rw [show ((i+1:Nat):Int)=(i:Int)+1 by omega] at hm2
  try dsimp only
  rw [spec_l14Image.l0,if_pos (by omega),h1 m (by omega),Option.bind_some]
  try dsimp only
  rw [h2 m (by omega),Option.bind_some]
  try dsimp only
  rw [h3 m (by omega),Option.bind_some]
  try dsimp only
  rw [if_pos (by omega),w64 (x:=(i:Int)+1) (by omega)]
  exact hm2
theorem imgJ1_ev {b:List Int} (hb:Code b) (kd dd w h:Int) (hd:0≤dd∧dd≤62) (hw:1≤w∧w≤20) (hh:1≤h∧h≤20) (n:Int) (hn:1≤n∧n≤256) {p:Int} (hp:0≤p∧p≤100):∃ r,GoodI r∧Ev (fun k=>spec_l14Image.j1 k n b p kd dd w h) r:=by
 obtain ⟨N,hN⟩:∃ N:Nat,n=(N:Int):=⟨n.toNat,by omega⟩
 obtain ⟨r,hr,K1,h1⟩:=imgCols_ev hb kd dd w h hd hw hh N (by omega) N 0 (by omega) [] p rfl (by omega)
 try dsimp only at h1
 try dsimp only at h1
 refine ⟨r,hr,K1+1,fun k hk=>?_⟩
 try dsimp only
 obtain ⟨m,rfl⟩:∃ m,k=m+1:=⟨k - 1,by omega⟩
 try dsimp only
 rw [spec_l14Image.j1,hN]
 exact h1 m (by omega)
theorem rd1248 {t:Int} (h:0≤t∧t < 4):(1≤rd [1,2,4,8] t∧rd [1,2,4,8] t≤8)∧P2 (rd [1,2,4,8] t).toNat≤256:=by
 rcases (show t=0 ∨ t=1 ∨ t=2 ∨ t=3 by omega) with rfl|rfl|rfl|rfl <;> decide
theorem imgJ0_ev {b:List Int} (hb:Code b) (kd dd w h:Int) (hw:1≤w∧w≤20) (hh:1≤h∧h≤20) {p:Int} (hp:0≤p∧p≤50):∃ r,GoodI r∧Ev (fun k=>spec_l14Image.j0 k b p kd dd w h) r:=by
 obtain ⟨t,ht,K1,h1⟩:=pick_ev hb (p:=p) (n:=4) (by omega) (by omega)
 try dsimp only at h1
 try dsimp only at h1
 have hr4:=rd1248 (t:=t) (by omega)
 have hlen:((([1,2,4,8]:List Int)).length:Int)=4:=rfl
 by_cases k2:kd=2
 ·obtain ⟨r,hr,K2,h2⟩:=imgJ3_ev hb kd 24 w h (by omega) hw hh [] (by simp) (fun e=>by omega) (p:=p+1) (by omega)
  try dsimp only at h2
  try dsimp only at h2
  refine ⟨r,hr,K1+K2+1,fun k hk=>?_⟩
  try dsimp only
  obtain ⟨m,rfl⟩:∃ m,k=m+1:=⟨k - 1,by omega⟩
  try dsimp only
  rw [spec_l14Image.j0,Option.bind_some,h1 m (by omega),Option.bind_some]
  try dsimp only
  rw [if_pos (by omega),if_pos (by rw [hlen];omega),if_pos k2]
  exact h2 m (by omega)
 ·by_cases k3:kd=3
  ·obtain ⟨r,hr,K2,h2⟩:=imgJ3_ev hb kd 32 w h (by omega) hw hh [] (by simp) (fun e=>by omega) (p:=p+1) (by omega)
   try dsimp only at h2
   try dsimp only at h2
   refine ⟨r,hr,K1+K2+1,fun k hk=>?_⟩
   try dsimp only
   obtain ⟨m,rfl⟩:∃ m,k=m+1:=⟨k - 1,by omega⟩
   try dsimp only
   rw [spec_l14Image.j0,Option.bind_some,h1 m (by omega),Option.bind_some]
   try dsimp only
   rw [if_pos (by omega),if_pos (by rw [hlen];omega),if_neg k2,if_pos k3]
   exact h2 m (by omega)
  ·by_cases k4:kd=4
   ·obtain ⟨K3,h3⟩:=l1Pow_evI (rd [1,2,4,8] t) (by omega) (by omega)
    try dsimp only at h3
    obtain ⟨u,hu,K4,h4⟩:=pick_ev hb (p:=p+1) (n:=2) (by omega) (by omega)
    try dsimp only at h4
    try dsimp only at h3 h4
    have hpow:1≤P2 (rd [1,2,4,8] t).toNat:=P2_pos _
    by_cases u0:u=0
    ·obtain ⟨n,hn,K5,h5⟩:=pick_ev hb (p:=p+1+1) (n:=P2 (rd [1,2,4,8] t).toNat) (by omega) (by omega)
     try dsimp only at h5
     try dsimp only at h5
     obtain ⟨r,hr,K6,h6⟩:=imgJ1_ev hb kd (rd [1,2,4,8] t) w h (by omega) hw hh (1+n) (by omega) (p:=p+1+1+1) (by omega)
     try dsimp only at h6
     try dsimp only at h6
     refine ⟨r,hr,K1+K3+K4+K5+K6+1,fun k hk=>?_⟩
     try dsimp only
     obtain ⟨m,rfl⟩:∃ m,k=m+1:=⟨k - 1,by omega⟩
     try dsimp only
     rw [spec_l14Image.j0,Option.bind_some,h1 m (by omega),Option.bind_some]
     try dsimp only
     rw [if_pos (by omega),if_pos (by rw [hlen];omega),if_neg k2,if_neg k3,if_pos k4,h3 m (by omega),Option.bind_some,h4 m (by omega),Option.bind_some]
     try dsimp only
     rw [if_pos u0,h5 m (by omega),Option.bind_some]
     try dsimp only
     rw [w64 (x:=1+n) (by omega)]
     exact h6 m (by omega)
    ·obtain ⟨r,hr,K6,h6⟩:=imgJ1_ev hb kd (rd [1,2,4,8] t) w h (by omega) hw hh (P2 (rd [1,2,4,8] t).toNat) (by omega) (p:=p+1+1) (by omega)
     try dsimp only at h6
     try dsimp only at h6
     refine ⟨r,hr,K1+K3+K4+K6+1,fun k hk=>?_⟩
     try dsimp only
     obtain ⟨m,rfl⟩:∃ m,k=m+1:=⟨k - 1,by omega⟩
     try dsimp only
     rw [spec_l14Image.j0,Option.bind_some,h1 m (by omega),Option.bind_some]
     try dsimp only
     rw [if_pos (by omega),if_pos (by rw [hlen];omega),if_neg k2,if_neg k3,if_pos k4,h3 m (by omega),Option.bind_some,h4 m (by omega),Option.bind_some]
     try dsimp only
     rw [if_neg u0]
     exact h6 m (by omega)
   ·obtain ⟨r,hr,K2,h2⟩:=imgJ3_ev hb kd (rd [1,2,4,8] t) w h (by omega) hw hh [] (by simp) (fun e=>by omega) (p:=p+1) (by omega)
    try dsimp only at h2
    try dsimp only at h2
    refine ⟨r,hr,K1+K2+1,fun k hk=>?_⟩
    try dsimp only
    obtain ⟨m,rfl⟩:∃ m,k=m+1:=⟨k - 1,by omega⟩
    try dsimp only
    rw [spec_l14Image.j0,Option.bind_some,h1 m (by omega),Option.bind_some]
    try dsimp only
    rw [if_pos (by omega),if_pos (by rw [hlen];omega),if_neg k2,if_neg k3,if_neg k4]
    exact h2 m (by omega)
theorem l14Image_ev {b:List Int} (hb:Code b):∃ r,GoodI r∧Ev (fun k=>spec_l14Image.f k b 0) r:=by
 obtain ⟨u1,hu1,K1,h1⟩:=pick_ev hb (p:=0) (n:=4) (by omega) (by omega)
 try dsimp only at h1
 obtain ⟨u2,hu2,K2,h2⟩:=pick_ev hb (p:=0+1) (n:=9) (by omega) (by omega)
 try dsimp only at h2
 obtain ⟨u3,hu3,K3,h3⟩:=pick_ev hb (p:=0+1+1) (n:=9) (by omega) (by omega)
 try dsimp only at h3
 obtain ⟨u4,hu4,K4,h4⟩:=pick_ev hb (p:=0+1+1+1) (n:=8) (by omega) (by omega)
 try dsimp only at h4
 try dsimp only at h1 h2 h3 h4
 by_cases e:u4=0
 ·obtain ⟨u5,hu5,K5,h5⟩:=pick_ev hb (p:=0+1+1+1+1) (n:=20) (by omega) (by omega)
  try dsimp only at h5
  obtain ⟨u6,hu6,K6,h6⟩:=pick_ev hb (p:=0+1+1+1+1+1) (n:=20) (by omega) (by omega)
  try dsimp only at h6
  try dsimp only at h5 h6
  obtain ⟨r,hr,K7,h7⟩:=imgJ0_ev hb (1+u1) 0 (1+u5) (1+u6) (by omega) (by omega) (p:=0+1+1+1+1+1+1) (by omega)
  try dsimp only at h7
  try dsimp only at h7
  refine ⟨r,hr,K1+K2+K3+K4+K5+K6+K7,fun k hk=>?_⟩
  try dsimp only
  try dsimp only
  unfold spec_l14Image.f
  rw [h1 k (by omega),Option.bind_some]
  try dsimp only
  rw [h2 k (by omega),Option.bind_some]
  try dsimp only
  rw [h3 k (by omega),Option.bind_some]
  try dsimp only
  rw [h4 k (by omega),Option.bind_some]
  try dsimp only
  rw [if_pos e,h5 k (by omega),Option.bind_some]
  try dsimp only
  rw [h6 k (by omega),Option.bind_some]
  try dsimp only
  rw [w64 (x:=1+u1) (by omega),w64 (x:=1+u5) (by omega),w64 (x:=1+u6) (by omega)]
  exact h7 k (by omega)
 ·obtain ⟨r,hr,K7,h7⟩:=imgJ0_ev hb (1+u1) 0 (1+u2) (1+u3) (by omega) (by omega) (p:=0+1+1+1+1) (by omega)
  try dsimp only at h7
  try dsimp only at h7
  refine ⟨r,hr,K1+K2+K3+K4+K7,fun k hk=>?_⟩
  try dsimp only
  try dsimp only
  unfold spec_l14Image.f
  rw [h1 k (by omega),Option.bind_some]
  try dsimp only
  rw [h2 k (by omega),Option.bind_some]
  try dsimp only
  rw [h3 k (by omega),Option.bind_some]
  try dsimp only
  rw [h4 k (by omega),Option.bind_some]
  try dsimp only
  rw [if_neg e,w64 (x:=1+u1) (by omega),w64 (x:=1+u2) (by omega),w64 (x:=1+u3) (by omega)]
  exact h7 k (by omega)
def Good2 (r:Int × Int × Int × Int × List Int × List Int × Int):Prop:=r.2.2.2.2.1.length≤1000∧r.2.2.2.2.2.1.length≤1000∧(0≤r.2.2.2.2.2.2∧r.2.2.2.2.2.2≤2000000)
theorem l14Copy_f (a b wd h:Int) (c p:List Int) (hc:c.length≤1048576) (hp:p.length≤1048576):spec_l14Copy.f a b wd h c p=some (a,b,wd,h,c,p):=by
 unfold spec_l14Copy.f
 rw [Option.bind_some,if_pos (by simp;omega),Option.bind_some,if_pos (by simp;omega),List.nil_append,List.nil_append]
theorem spoil_l0_ev (b:List Int) (p a dd w h:Int) (pt:List Int):∀ d i:Nat,i+d=257 → ∀ c:List Int,c.length≤256+i → Ev (fun k=>spec_l14Spoil.l0 k (i:Int) b p a dd w h c pt) (a,dd,w,h,c ++ List.replicate d 7,pt,p):=by
 intro d
 induction d with
 | zero =>
  intro i hi c hc
  refine ⟨1,fun k hk=>?_⟩
  try dsimp only
  obtain ⟨m,rfl⟩:∃ m,k=m+1:=⟨k - 1,by omega⟩
  try dsimp only
  rw [spec_l14Spoil.l0,if_neg (by omega)]
  simp
 | succ d ih =>
  intro i hi c hc
  obtain ⟨K,hK⟩:=ih (i+1) (by omega) (c ++ [7]) (by simp;omega)
  try dsimp only at hK
  try dsimp only at hK
  refine ⟨K+1,fun k hk=>?_⟩
  try dsimp only
  obtain ⟨m,rfl⟩:∃ m,k=m+1:=⟨k - 1,by omega⟩
  have hm:=hK m (by omega)
  rw [show ((i+1:Nat):Int)=(i:Int)+1 by omega,List.append_assoc] at hm
  try dsimp only
  rw [spec_l14Spoil.l0,if_pos (by omega),if_pos (by omega),w64 (by omega),List.replicate_succ]
  exact hm
theorem spoil_ev {b:List Int} (hb:Code b) (a dd w h:Int) (c pt:List Int) (hc:c.length≤256) (hpt:1≤pt.length∧pt.length≤400) {p:Int} (hp:0≤p∧p≤1000010):∃ r,Good2 r∧Ev (fun k=>spec_l14Spoil.f k b p a dd w h c pt) r:=by
 obtain ⟨t,ht,K1,h1⟩:=pick_ev hb (p:=p) (n:=8) (by omega) (by omega)
 try dsimp only at h1
 obtain ⟨u,hu,K2,h2⟩:=pick_ev hb (p:=p+1) (n:=3) (by omega) (by omega)
 try dsimp only at h2
 obtain ⟨v,hv,K3,h3⟩:=pick_ev hb (p:=p+1) (n:=(pt.length:Int)) (by omega) (by omega)
 try dsimp only at h3
 obtain ⟨x,hx,K4,h4⟩:=pick_ev hb (p:=p+1+1) (n:=2) (by omega) (by omega)
 try dsimp only at h4
 try dsimp only at h1 h2 h3 h4
 obtain ⟨K5,h5⟩:=spoil_l0_ev b (p+1) a dd w h pt 257 0 (by omega) c (by omega)
 try dsimp only at h5
 try dsimp only at h5
 have l3:∀ q0 q1 q2:Int,((([q0,q1,q2]:List Int)).length:Int)=3:=fun _ _ _=>rfl
 have l2:∀ q0 q1:Int,((([q0,q1]:List Int)).length:Int)=2:=fun _ _=>rfl
 have hcopy:=l14Copy_f a dd w h c pt (by omega) (by omega)
 obtain ⟨KK,hKK⟩:∃ KK,KK=K1+K2+K3+K4+K5:=⟨_,rfl⟩
 by_cases e0:t=0
 ·refine ⟨(rd [0,5,wrap64 (1+Int.tmod a 4)] u,dd,w,h,c,pt,p+1+1),⟨by dsimp only;omega,by dsimp only;omega,by dsimp only;omega⟩,KK,fun k hk=>?_⟩
  try dsimp only
  try dsimp only
  unfold spec_l14Spoil.f
  rw [hcopy,Option.bind_some]
  try dsimp only
  rw [h1 k (by omega),Option.bind_some]
  try dsimp only
  rw [if_pos e0,Option.bind_some,h2 k (by omega),Option.bind_some]
  try dsimp only
  rw [if_pos (by omega),if_pos (by rw [l3];omega)]
 by_cases e1:t=1
 ·refine ⟨(a,rd [0,3,16] u,w,h,c,pt,p+1+1),⟨by dsimp only;omega,by dsimp only;omega,by dsimp only;omega⟩,KK,fun k hk=>?_⟩
  try dsimp only
  try dsimp only
  unfold spec_l14Spoil.f
  rw [hcopy,Option.bind_some]
  try dsimp only
  rw [h1 k (by omega),Option.bind_some]
  try dsimp only
  rw [if_neg e0,if_pos e1,Option.bind_some,h2 k (by omega),Option.bind_some]
  try dsimp only
  rw [if_pos (by omega),if_pos (by rw [l3];omega)]
 by_cases e2:t=2
 ·refine ⟨(a,dd,rd [0,wrap64 (w+1),21] u,h,c,pt,p+1+1),⟨by dsimp only;omega,by dsimp only;omega,by dsimp only;omega⟩,KK,fun k hk=>?_⟩
  try dsimp only
  try dsimp only
  unfold spec_l14Spoil.f
  rw [hcopy,Option.bind_some]
  try dsimp only
  rw [h1 k (by omega),Option.bind_some]
  try dsimp only
  rw [if_neg e0,if_neg e1,if_pos e2,Option.bind_some,h2 k (by omega),Option.bind_some]
  try dsimp only
  rw [if_pos (by omega),if_pos (by rw [l3];omega)]
 by_cases e3:t=3
 ·refine ⟨(a,dd,w,h,c,pt.drop (1:Int).toNat,p+1),⟨by dsimp only;omega,by dsimp only;rw [List.length_drop];omega,by dsimp only;omega⟩,KK,fun k hk=>?_⟩
  try dsimp only
  try dsimp only
  unfold spec_l14Spoil.f
  rw [hcopy,Option.bind_some]
  try dsimp only
  rw [h1 k (by omega),Option.bind_some]
  try dsimp only
  rw [if_neg e0,if_neg e1,if_neg e2,if_pos e3,if_pos (by omega)]
 by_cases e4:t=4
 ·refine ⟨(a,dd,w,h,c,pt.set v.toNat (rd [-1,4294967296] x),p+1+1+1),⟨by dsimp only;omega,by dsimp only;rw [List.length_set];omega,by dsimp only;omega⟩,KK,fun k hk=>?_⟩
  try dsimp only
  try dsimp only
  unfold spec_l14Spoil.f
  rw [hcopy,Option.bind_some]
  try dsimp only
  rw [h1 k (by omega),Option.bind_some]
  try dsimp only
  rw [if_neg e0,if_neg e1,if_neg e2,if_neg e3,if_pos e4,h3 k (by omega),Option.bind_some]
  try dsimp only
  rw [Option.bind_some,h4 k (by omega),Option.bind_some]
  try dsimp only
  rw [if_pos (by omega),if_pos (by rw [l2];omega),if_pos (by omega),if_pos (by omega)]
 by_cases e5:t=5
 ·refine ⟨(a,dd,w,h,c ++ [rd [-1,16777216,5] u],pt,p+1+1),⟨by dsimp only;rw [List.length_append,List.length_singleton];omega,by dsimp only;omega,by dsimp only;omega⟩,KK,fun k hk=>?_⟩
  try dsimp only
  try dsimp only
  unfold spec_l14Spoil.f
  rw [hcopy,Option.bind_some]
  try dsimp only
  rw [h1 k (by omega),Option.bind_some]
  try dsimp only
  rw [if_neg e0,if_neg e1,if_neg e2,if_neg e3,if_neg e4,if_pos e5,Option.bind_some,h2 k (by omega),Option.bind_some]
  try dsimp only
  rw [if_pos (by omega),if_pos (by rw [l3];omega),if_pos (by omega)]
 by_cases e6:t=6
 ·refine ⟨(a,dd,w,h,c ++ List.replicate 257 7,pt,p+1),⟨by dsimp only;rw [List.length_append,List.length_replicate];omega,by dsimp only;omega,by dsimp only;omega⟩,KK,fun k hk=>?_⟩
  try dsimp only
  try dsimp only
  unfold spec_l14Spoil.f
  rw [hcopy,Option.bind_some]
  try dsimp only
  rw [h1 k (by omega),Option.bind_some]
  try dsimp only
  rw [if_neg e0,if_neg e1,if_neg e2,if_neg e3,if_neg e4,if_neg e5,if_pos e6]
  exact h5 k (by omega)
 ·refine ⟨(a,dd,w,0,c,pt,p+1),⟨by dsimp only;omega,by dsimp only;omega,by dsimp only;omega⟩,KK,fun k hk=>?_⟩
  try dsimp only
  try dsimp only
  unfold spec_l14Spoil.f
  rw [hcopy,Option.bind_some]
  try dsimp only
  rw [h1 k (by omega),Option.bind_some]
  try dsimp only
  rw [if_neg e0,if_neg e1,if_neg e2,if_neg e3,if_neg e4,if_neg e5,if_neg e6]
theorem l14Any_ev {b:List Int} (hb:Code b):∃ r,Good2 r∧Ev (fun k=>spec_l14Any.f k b 0) r:=by
 obtain ⟨⟨a,dd,w,h,c,pt,p⟩,hg,K1,h1⟩:=l14Image_ev hb
 obtain ⟨g1,g2,g3⟩:=hg
 try dsimp only at g1 g2 g3 h1
 obtain ⟨t,ht,K2,h2⟩:=pick_ev hb (p:=p) (n:=14) (by omega) (by omega)
 try dsimp only at h2
 try dsimp only at h2
 by_cases e:t=0
 ·obtain ⟨⟨a',dd',w',h',c',pt',p'⟩,hg,K3,h3⟩:=spoil_ev hb a dd w h c pt g1 g2 (p:=p+1) (by omega)
  try dsimp only at h3
  refine ⟨(a',dd',w',h',c',pt',p'),hg,K1+K2+K3,fun k hk=>?_⟩
  try dsimp only
  try dsimp only
  unfold spec_l14Any.f
  rw [h1 k (by omega),Option.bind_some]
  try dsimp only
  rw [h2 k (by omega),Option.bind_some]
  try dsimp only
  rw [if_pos e,h3 k (by omega),Option.bind_some]
 ·refine ⟨(a,dd,w,h,c,pt,p+1),⟨by dsimp only;omega,by dsimp only;omega,by dsimp only;omega⟩,K1+K2,fun k hk=>?_⟩
  try dsimp only
  try dsimp only
  unfold spec_l14Any.f
  rw [h1 k (by omega),Option.bind_some]
  try dsimp only
  rw [h2 k (by omega),Option.bind_some]
  try dsimp only
  rw [if_neg e]
def GoodJ (r:Int × Int × Int × Int × List Int × List Int × Int):Prop:=r.2.2.2.2.1.length≤256∧(1≤r.2.2.2.2.2.1.length∧r.2.2.2.2.2.1.length≤400)∧(0≤r.2.2.2.2.2.2∧r.2.2.2.2.2.2≤5000000)
theorem imgPtsB_ev {b:List Int} (hb:Code b) (most:Int) (hm:1≤most) (kd dd w h:Int) (N:Nat) (hN:1≤N∧N≤400) (hw:wrap64 (w * h)=(N:Int)) (c:List Int) (hc:c.length≤256) :
  ∀ d i:Nat,i+d=N → ∀ (pts:List Int) (p v:Int),pts.length=i → (0≤p∧p≤4010000+5 * i) → ∃ r,GoodJ r∧Ev (fun k=>spec_l14Image.l1 k most v (i:Int) b p kd dd w h c pts) r:=by
 intro d
 induction d with
 | zero =>
  intro i hi pts p v hp hpp
  refine ⟨(kd,dd,w,h,c,pts,p),⟨hc,by dsimp only;omega,by dsimp only;omega⟩,1,fun k hk=>?_⟩
  try dsimp only
  obtain ⟨m,rfl⟩:∃ m,k=m+1:=⟨k - 1,by omega⟩
  try dsimp only
  rw [spec_l14Image.l1,hw,if_neg (by omega)]
 | succ d ih =>
  intro i hi pts p v hp hpp
  have hj:∀ (v p:Int),(0≤p∧p≤4010000+5 * i+4) → ∃ r,GoodJ r∧Ev (fun k=>spec_l14Image.j6 k most v (i:Int) b p kd dd w h c pts) r:=by
   intro v p hp9
   by_cases h3:kd=3
   ·obtain ⟨u,hu,K1,h1⟩:=pick_ev hb (p:=p) (n:=2) (by omega) (by omega)
    try dsimp only at h1
    try dsimp only at h1
    obtain ⟨v2,hv2⟩:∃ v2,v2=if u=0 then wrap64 (wrap64 (wrap64 (Int.tdiv v 256) * 256)+255) else v:=⟨_,rfl⟩
    obtain ⟨r,hr,K2,h2⟩:=ih (i+1) (by omega) (pts ++ [v2]) (p+1) v2 (by simp;omega) (by omega)
    try dsimp only at h2
    try dsimp only at h2
    refine ⟨r,hr,K1+K2+1,fun k hk=>?_⟩
    try dsimp only
    obtain ⟨m,rfl⟩:∃ m,k=m+1:=⟨k - 1,by omega⟩
    have hm2:=h2 m (by omega)
    rw [show ((i+1:Nat):Int)=(i:Int)+1 by omega] at hm2
    try dsimp only
    rw [spec_l14Image.j6,if_pos h3,h1 m (by omega),Option.bind_some]
    try dsimp only
    by_cases hu0:u=0
    ·rw [if_pos hu0] at hv2
     rw [if_pos hu0,if_pos (by omega),w64 (x:=(i:Int)+1) (by omega),← hv2]
     exact hm2
    ·rw [if_neg hu0] at hv2
     rw [if_neg hu0,if_pos (by omega),w64 (x:=(i:Int)+1) (by omega),← hv2]
     exact hm2
   ·obtain ⟨r,hr,K2,h2⟩:=ih (i+1) (by omega) (pts ++ [v]) p v (by simp;omega) (by omega)
    try dsimp only at h2
    try dsimp only at h2
    refine ⟨r,hr,K2+1,fun k hk=>?_⟩
    try dsimp only
    obtain ⟨m,rfl⟩:∃ m,k=m+1:=⟨k - 1,by omega⟩
    have hm2:=h2 m (by omega)
    rw [show ((i+1:Nat):Int)=(i:Int)+1 by omega] at hm2
    try dsimp only
    rw [spec_l14Image.j6,if_neg h3,if_pos (by omega),w64 (x:=(i:Int)+1) (by omega)]
    exact hm2
  obtain ⟨u,hu,K1,h1⟩:=pick_ev hb (p:=p) (n:=3) (by omega) (by omega)
  try dsimp only at h1
  try dsimp only at h1
  by_cases hu0:u > 0
  ·obtain ⟨u2,hu2,K2,h2⟩:=pick_ev hb (p:=p+1) (n:=256) (by omega) (by omega)
   try dsimp only at h2
   obtain ⟨u3,hu3,K3,h3⟩:=pick_ev hb (p:=p+1+1) (n:=3) (by omega) (by omega)
   try dsimp only at h3
   obtain ⟨u4,hu4,K4,h4⟩:=pick_ev hb (p:=p+1+1+1) (n:=256) (by omega) (by omega)
   try dsimp only at h4
   try dsimp only at h2 h3 h4
   obtain ⟨r,hr,K5,h5⟩:=hj (Int.tmod (wrap64 (wrap64 (wrap64 (u2 * 16777216)+wrap64 (u3 * 65536))+u4)) most) (p+1+1+1+1) (by omega)
   try dsimp only at h5
   try dsimp only at h5
   refine ⟨r,hr,K1+K2+K3+K4+K5+1,fun k hk=>?_⟩
   try dsimp only
   obtain ⟨m,rfl⟩:∃ m,k=m+1:=⟨k - 1,by omega⟩
   try dsimp only
   rw [spec_l14Image.l1,hw,if_pos (by omega),h1 m (by omega),Option.bind_some]
   try dsimp only
   rw [if_pos hu0,h2 m (by omega),Option.bind_some]
   try dsimp only
   rw [h3 m (by omega),Option.bind_some]
   try dsimp only
   rw [h4 m (by omega),Option.bind_some]
   try dsimp only
   rw [if_neg (by omega)]
   exact h5 m (by omega)
  ·obtain ⟨r,hr,K5,h5⟩:=hj v (p+1) (by omega)
   try dsimp only at h5
   try dsimp only at h5
   refine ⟨r,hr,K1+K5+1,fun k hk=>?_⟩
   try dsimp only
   obtain ⟨m,rfl⟩:∃ m,k=m+1:=⟨k - 1,by omega⟩
   try dsimp only
   rw [spec_l14Image.l1,hw,if_pos (by omega),h1 m (by omega),Option.bind_some]
   try dsimp only
   rw [if_neg hu0]
   exact h5 m (by omega)
theorem imgJ3B_ev {b:List Int} (hb:Code b) (kd dd w h:Int) (hd:0≤dd∧dd≤62) (hw:1≤w∧w≤20) (hh:1≤h∧h≤20) (c:List Int) (hc:c.length≤256) (hk:kd=4 → 1≤c.length) {p:Int} (hp:0≤p∧p≤4010000):∃ r,GoodJ r∧Ev (fun k=>spec_l14Image.j3 k b p kd dd w h c) r:=by
 have hwh:=mul20 hw hh
 obtain ⟨N,hN⟩:∃ N:Nat,(N:Int)=w * h:=⟨(w * h).toNat,by omega⟩
 obtain ⟨K1,h1⟩:=l1Pow_evI dd hd.1 hd.2
 try dsimp only at h1
 try dsimp only at h1
 have hpow:1≤P2 dd.toNat:=P2_pos _
 obtain ⟨most,hmost⟩:∃ most:Int,most=if kd=4 then (c.length:Int) else P2 dd.toNat:=⟨_,rfl⟩
 have hm1:1≤most:=by
  rw [hmost];split
  ·rename_i e;have:=hk e;omega
  ·exact hpow
 obtain ⟨r,hr,K2,h2⟩:=imgPtsB_ev hb most hm1 kd dd w h N (by omega) (by rw [w64 (by omega),hN]) c hc N 0 (by omega) [] p 0 rfl (by omega)
 try dsimp only at h2
 try dsimp only at h2
 refine ⟨r,hr,K1+K2+2,fun k hk=>?_⟩
 try dsimp only
 obtain ⟨m,rfl⟩:∃ m,k=m+2:=⟨k - 2,by omega⟩
 have hm2:=h2 m (by omega)
 try dsimp only
 rw [spec_l14Image.j3,h1 (m+1) (by omega),Option.bind_some]
 by_cases e:kd=4
 ·rw [if_pos e] at hmost
  rw [if_pos e,spec_l14Image.j4,← hmost];exact hm2
 ·rw [if_neg e] at hmost
  rw [if_neg e,spec_l14Image.j4,← hmost];exact hm2
theorem imgColsB_ev {b:List Int} (hb:Code b) (kd dd w h:Int) (hd:0≤dd∧dd≤62) (hw:1≤w∧w≤20) (hh:1≤h∧h≤20) (n:Nat) (hn:1≤n∧n≤256) :
  ∀ d i:Nat,i+d=n → ∀ (c:List Int) (p:Int),c.length=i → (0≤p∧p≤4000100+3 * i) → ∃ r,GoodJ r∧Ev (fun k=>spec_l14Image.l0 k (n:Int) (i:Int) b p kd dd w h c) r:=by
 intro d
 induction d with
 | zero =>
  intro i hi c p hc hp
  obtain ⟨r,hr,K1,h1⟩:=imgJ3B_ev hb kd dd w h hd hw hh c (by omega) (fun _=>by omega) (p:=p) (by omega)
  try dsimp only at h1
  try dsimp only at h1
  refine ⟨r,hr,K1+1,fun k hk=>?_⟩
  try dsimp only
  obtain ⟨m,rfl⟩:∃ m,k=m+1:=⟨k - 1,by omega⟩
  try dsimp only
  rw [spec_l14Image.l0,if_neg (by omega)]
  exact h1 m (by omega)
 | succ d ih =>
  intro i hi c p hc hp
  obtain ⟨u1,hu1,K1,h1⟩:=pick_ev hb (p:=p) (n:=256) (by omega) (by omega)
  try dsimp only at h1
  obtain ⟨u2,hu2,K2,h2⟩:=pick_ev hb (p:=p+1) (n:=256) (by omega) (by omega)
  try dsimp only at h2
  obtain ⟨u3,hu3,K3,h3⟩:=pick_ev hb (p:=p+1+1) (n:=9) (by omega) (by omega)
  try dsimp only at h3
  try dsimp only at h1 h2 h3
  obtain ⟨r,hr,K4,h4⟩:=ih (i+1) (by omega) (c ++ [wrap64 (wrap64 (wrap64 (u1 * 65536)+wrap64 (u2 * 256))+u3)]) (p+1+1+1) (by simp;omega) (by omega)
  try dsimp only at h4
  try dsimp only at h4
  refine ⟨r,hr,K1+K2+K3+K4+1,fun k hk=>?_⟩
  try dsimp only
  obtain ⟨m,rfl⟩:∃ m,k=m+1:=⟨k - 1,by omega⟩
  have hm2:=h4 m (by omega)
  rw [show ((i+1:Nat):Int)=(i:Int)+1 by omega] at hm2
  try dsimp only
  rw [spec_l14Image.l0,if_pos (by omega),h1 m (by omega),Option.bind_some]
  try dsimp only
  rw [h2 m (by omega),Option.bind_some]
  try dsimp only
  rw [h3 m (by omega),Option.bind_some]
  try dsimp only
  rw [if_pos (by omega),w64 (x:=(i:Int)+1) (by omega)]
  exact hm2
theorem imgJ1B_ev {b:List Int} (hb:Code b) (kd dd w h:Int) (hd:0≤dd∧dd≤62) (hw:1≤w∧w≤20) (hh:1≤h∧h≤20) (n:Int) (hn:1≤n∧n≤256) {p:Int} (hp:0≤p∧p≤4000100):∃ r,GoodJ r∧Ev (fun k=>spec_l14Image.j1 k n b p kd dd w h) r:=by
 obtain ⟨N,hN⟩:∃ N:Nat,n=(N:Int):=⟨n.toNat,by omega⟩
 obtain ⟨r,hr,K1,h1⟩:=imgColsB_ev hb kd dd w h hd hw hh N (by omega) N 0 (by omega) [] p rfl (by omega)
 try dsimp only at h1
 try dsimp only at h1
 refine ⟨r,hr,K1+1,fun k hk=>?_⟩
 try dsimp only
 obtain ⟨m,rfl⟩:∃ m,k=m+1:=⟨k - 1,by omega⟩
 try dsimp only
 rw [spec_l14Image.j1,hN]
 exact h1 m (by omega)
theorem imgJ0B_ev {b:List Int} (hb:Code b) (kd dd w h:Int) (hw:1≤w∧w≤20) (hh:1≤h∧h≤20) {p:Int} (hp:0≤p∧p≤4000050):∃ r,GoodJ r∧Ev (fun k=>spec_l14Image.j0 k b p kd dd w h) r:=by
 obtain ⟨t,ht,K1,h1⟩:=pick_ev hb (p:=p) (n:=4) (by omega) (by omega)
 try dsimp only at h1
 try dsimp only at h1
 have hr4:=rd1248 (t:=t) (by omega)
 have hlen:((([1,2,4,8]:List Int)).length:Int)=4:=rfl
 by_cases k2:kd=2
 ·obtain ⟨r,hr,K2,h2⟩:=imgJ3B_ev hb kd 24 w h (by omega) hw hh [] (by simp) (fun e=>by omega) (p:=p+1) (by omega)
  try dsimp only at h2
  try dsimp only at h2
  refine ⟨r,hr,K1+K2+1,fun k hk=>?_⟩
  try dsimp only
  obtain ⟨m,rfl⟩:∃ m,k=m+1:=⟨k - 1,by omega⟩
  try dsimp only
  rw [spec_l14Image.j0,Option.bind_some,h1 m (by omega),Option.bind_some]
  try dsimp only
  rw [if_pos (by omega),if_pos (by rw [hlen];omega),if_pos k2]
  exact h2 m (by omega)
 ·by_cases k3:kd=3
  ·obtain ⟨r,hr,K2,h2⟩:=imgJ3B_ev hb kd 32 w h (by omega) hw hh [] (by simp) (fun e=>by omega) (p:=p+1) (by omega)
   try dsimp only at h2
   try dsimp only at h2
   refine ⟨r,hr,K1+K2+1,fun k hk=>?_⟩
   try dsimp only
   obtain ⟨m,rfl⟩:∃ m,k=m+1:=⟨k - 1,by omega⟩
   try dsimp only
   rw [spec_l14Image.j0,Option.bind_some,h1 m (by omega),Option.bind_some]
   try dsimp only
   rw [if_pos (by omega),if_pos (by rw [hlen];omega),if_neg k2,if_pos k3]
   exact h2 m (by omega)
  ·by_cases k4:kd=4
   ·obtain ⟨K3,h3⟩:=l1Pow_evI (rd [1,2,4,8] t) (by omega) (by omega)
    try dsimp only at h3
    obtain ⟨u,hu,K4,h4⟩:=pick_ev hb (p:=p+1) (n:=2) (by omega) (by omega)
    try dsimp only at h4
    try dsimp only at h3 h4
    have hpow:1≤P2 (rd [1,2,4,8] t).toNat:=P2_pos _
    by_cases u0:u=0
    ·obtain ⟨n,hn,K5,h5⟩:=pick_ev hb (p:=p+1+1) (n:=P2 (rd [1,2,4,8] t).toNat) (by omega) (by omega)
     try dsimp only at h5
     try dsimp only at h5
     obtain ⟨r,hr,K6,h6⟩:=imgJ1B_ev hb kd (rd [1,2,4,8] t) w h (by omega) hw hh (1+n) (by omega) (p:=p+1+1+1) (by omega)
     try dsimp only at h6
     try dsimp only at h6
     refine ⟨r,hr,K1+K3+K4+K5+K6+1,fun k hk=>?_⟩
     try dsimp only
     obtain ⟨m,rfl⟩:∃ m,k=m+1:=⟨k - 1,by omega⟩
     try dsimp only
     rw [spec_l14Image.j0,Option.bind_some,h1 m (by omega),Option.bind_some]
     try dsimp only
     rw [if_pos (by omega),if_pos (by rw [hlen];omega),if_neg k2,if_neg k3,if_pos k4,h3 m (by omega),Option.bind_some,h4 m (by omega),Option.bind_some]
     try dsimp only
     rw [if_pos u0,h5 m (by omega),Option.bind_some]
     try dsimp only
     rw [w64 (x:=1+n) (by omega)]
     exact h6 m (by omega)
    ·obtain ⟨r,hr,K6,h6⟩:=imgJ1B_ev hb kd (rd [1,2,4,8] t) w h (by omega) hw hh (P2 (rd [1,2,4,8] t).toNat) (by omega) (p:=p+1+1) (by omega)
     try dsimp only at h6
     try dsimp only at h6
     refine ⟨r,hr,K1+K3+K4+K6+1,fun k hk=>?_⟩
     try dsimp only
     obtain ⟨m,rfl⟩:∃ m,k=m+1:=⟨k - 1,by omega⟩
     try dsimp only
     rw [spec_l14Image.j0,Option.bind_some,h1 m (by omega),Option.bind_some]
     try dsimp only
     rw [if_pos (by omega),if_pos (by rw [hlen];omega),if_neg k2,if_neg k3,if_pos k4,h3 m (by omega),Option.bind_some,h4 m (by omega),Option.bind_some]
     try dsimp only
     rw [if_neg u0]
     exact h6 m (by omega)
   ·obtain ⟨r,hr,K2,h2⟩:=imgJ3B_ev hb kd (rd [1,2,4,8] t) w h (by omega) hw hh [] (by simp) (fun e=>by omega) (p:=p+1) (by omega)
    try dsimp only at h2
    try dsimp only at h2
    refine ⟨r,hr,K1+K2+1,fun k hk=>?_⟩
    try dsimp only
    obtain ⟨m,rfl⟩:∃ m,k=m+1:=⟨k - 1,by omega⟩
    try dsimp only
    rw [spec_l14Image.j0,Option.bind_some,h1 m (by omega),Option.bind_some]
    try dsimp only
    rw [if_pos (by omega),if_pos (by rw [hlen];omega),if_neg k2,if_neg k3,if_neg k4]
    exact h2 m (by omega)
theorem l14ImageB_ev {b:List Int} (hb:Code b) {q:Int} (hq:0≤q∧q≤4000000):∃ r,GoodJ r∧Ev (fun k=>spec_l14Image.f k b q) r:=by
 obtain ⟨u1,hu1,K1,h1⟩:=pick_ev hb (p:=q) (n:=4) (by omega) (by omega)
 try dsimp only at h1
 obtain ⟨u2,hu2,K2,h2⟩:=pick_ev hb (p:=q+1) (n:=9) (by omega) (by omega)
 try dsimp only at h2
 obtain ⟨u3,hu3,K3,h3⟩:=pick_ev hb (p:=q+1+1) (n:=9) (by omega) (by omega)
 try dsimp only at h3
 obtain ⟨u4,hu4,K4,h4⟩:=pick_ev hb (p:=q+1+1+1) (n:=8) (by omega) (by omega)
 try dsimp only at h4
 try dsimp only at h1 h2 h3 h4
 by_cases e:u4=0
 ·obtain ⟨u5,hu5,K5,h5⟩:=pick_ev hb (p:=q+1+1+1+1) (n:=20) (by omega) (by omega)
  try dsimp only at h5
  obtain ⟨u6,hu6,K6,h6⟩:=pick_ev hb (p:=q+1+1+1+1+1) (n:=20) (by omega) (by omega)
  try dsimp only at h6
  try dsimp only at h5 h6
  obtain ⟨r,hr,K7,h7⟩:=imgJ0B_ev hb (1+u1) 0 (1+u5) (1+u6) (by omega) (by omega) (p:=q+1+1+1+1+1+1) (by omega)
  try dsimp only at h7
  try dsimp only at h7
  refine ⟨r,hr,K1+K2+K3+K4+K5+K6+K7,fun k hk=>?_⟩
  try dsimp only
  try dsimp only
  unfold spec_l14Image.f
  rw [h1 k (by omega),Option.bind_some]
  try dsimp only
  rw [h2 k (by omega),Option.bind_some]
  try dsimp only
  rw [h3 k (by omega),Option.bind_some]
  try dsimp only
  rw [h4 k (by omega),Option.bind_some]
  try dsimp only
  rw [if_pos e,h5 k (by omega),Option.bind_some]
  try dsimp only
  rw [h6 k (by omega),Option.bind_some]
  try dsimp only
  rw [w64 (x:=1+u1) (by omega),w64 (x:=1+u5) (by omega),w64 (x:=1+u6) (by omega)]
  exact h7 k (by omega)
 ·obtain ⟨r,hr,K7,h7⟩:=imgJ0B_ev hb (1+u1) 0 (1+u2) (1+u3) (by omega) (by omega) (p:=q+1+1+1+1) (by omega)
  try dsimp only at h7
  try dsimp only at h7
  refine ⟨r,hr,K1+K2+K3+K4+K7,fun k hk=>?_⟩
  try dsimp only
  try dsimp only
  unfold spec_l14Image.f
  rw [h1 k (by omega),Option.bind_some]
  try dsimp only
  rw [h2 k (by omega),Option.bind_some]
  try dsimp only
  rw [h3 k (by omega),Option.bind_some]
  try dsimp only
  rw [h4 k (by omega),Option.bind_some]
  try dsimp only
  rw [if_neg e,w64 (x:=1+u1) (by omega),w64 (x:=1+u2) (by omega),w64 (x:=1+u3) (by omega)]
  exact h7 k (by omega)
theorem wiInts_l0_ev (a:List Int) (hl:a.length≤35184372088832):∀ (sa pa:List Int),a=pa ++ sa → Ev (fun k=>laws_wiInts.l0 k a a (pa.length:Int)) true:=by
 intro sa
 induction sa with
 | nil =>
  intro pa ha
  refine ⟨1,fun k hk=>?_⟩
  try dsimp only
  obtain ⟨m,rfl⟩:∃ m,k=m+1:=⟨k - 1,by omega⟩
  rw [laws_wiInts.l0,if_neg (by rw [ha];simp)]
 | cons x sa ih =>
  intro pa ha
  have hll:a.length=pa.length+sa.length+1:=by rw [ha];simp;omega
  obtain ⟨K,hK⟩:=ih (pa ++ [x]) (by simp [ha])
  try dsimp only at hK
  refine ⟨K+1,fun k hk=>?_⟩
  try dsimp only
  obtain ⟨m,rfl⟩:∃ m,k=m+1:=⟨k - 1,by omega⟩
  have hm:=hK m (by omega)
  rw [laws_wiInts.l0,if_pos (by omega),if_pos (by omega),if_pos (by omega),if_pos rfl,w64 (by omega)]
  rw [List.length_append,List.length_singleton,show ((pa.length+1:Nat):Int)=(pa.length:Int)+1 by omega] at hm
  exact hm
theorem wiInts_ev (a:List Int) (hl:a.length≤35184372088832):Ev (fun k=>laws_wiInts.f k a a) true:=by
 obtain ⟨K,hK⟩:=wiInts_l0_ev a hl a [] rfl
 try dsimp only at hK
 refine ⟨K,fun k hk=>?_⟩
 try dsimp only
 unfold laws_wiInts.f
 rw [if_pos rfl]
 exact hK k hk
theorem wiImage_ev (a b wd h:Int) (c p:List Int) (hc:c.length≤1048576) (hp:p.length≤1048576):Ev (fun k=>laws_wiImage.f k a b wd h c p a b wd h c p) true:=by
 obtain ⟨K1,h1⟩:=wiInts_ev c (by omega)
 try dsimp only at h1
 obtain ⟨K2,h2⟩:=wiInts_ev p (by omega)
 try dsimp only at h2
 try dsimp only at h1 h2
 refine ⟨K1+K2,fun k hk=>?_⟩
 try dsimp only
 try dsimp only
 unfold laws_wiImage.f
 rw [if_pos rfl,if_pos rfl,if_pos rfl,if_pos rfl,h1 k (by omega),Option.bind_some,if_pos rfl,h2 k (by omega),Option.bind_some]
theorem in_f (a b c:Int):impl_in.f a b c=some (decide (b≤a∧a≤c)):=by
 unfold impl_in.f
 by_cases h:b≤a
 ·rw [if_pos h];simp [h]
 ·rw [if_neg h];simp [h]
theorem l1In_f (a b c:Int):spec_l1In.f a b c=some (decide (b≤a∧a≤c)):=by
 unfold spec_l1In.f
 by_cases h:b≤a
 ·rw [if_pos h];simp [h]
 ·rw [if_neg h];simp [h]
theorem l8Depth_f (k:Nat) (a b:Int):spec_l8Depth.f (k+1) a b=some (decide (depP a b)):=by
 have hj:∀ t:Bool,spec_l8Depth.j0 (k+1) b a t=if t=true then some (decide (b=1 ∨ b=2 ∨ b=4 ∨ b=8)) else some (decide ((a=2∧b=24) ∨ (a=3∧b=32))):=by
  intro t
  rw [spec_l8Depth.j0]
  by_cases h:t=true
  ·rw [if_pos h,if_pos h]
   by_cases h1:b=1
   ·rw [if_pos h1];simp [h1]
   ·rw [if_neg h1]
    by_cases h2:b=2
    ·rw [if_pos h2];simp [h2]
    ·rw [if_neg h2]
     by_cases h4:b=4
     ·rw [if_pos h4];simp [h4]
     ·rw [if_neg h4];congr 1;rw [Bool.eq_iff_iff];simp [h1,h2,h4]
  ·rw [if_neg h,if_neg h]
   by_cases h1:a=2
   ·rw [if_pos h1];congr 1;rw [Bool.eq_iff_iff];simp [h1]
   ·rw [if_neg h1]
    by_cases h2:a=3
    ·rw [if_pos h2];congr 1;rw [Bool.eq_iff_iff];simp [h2]
    ·rw [if_neg h2];congr 1;simp [h1,h2]
 unfold spec_l8Depth.f
 rw [hj,hj]
 unfold depP
 by_cases h:a=1
 ·rw [if_pos h,if_pos (by simp [h])];congr 1;simp [h]
 ·rw [if_neg h]
  by_cases h4:a=4
  ·rw [if_pos (by simp [h4])];congr 1;simp [h4]
  ·rw [if_neg (by simp [h4])];congr 1;simp [h,h4]
theorem l8Colors_l0_ev (a b wd h:Int) (c p:List Int) (hd:depP a b) (hc:c.length≤1048576):∀ (suf pre:List Int),c=pre ++ suf → Ev (fun k=>spec_l8Colors.l0 k (pre.length:Int) a b wd h c p) (decide (inAll suf 16777215∧if a=4 then 1≤(c.length:Int)∧(c.length:Int)≤P2 b.toNat else c=[])):=by
 have hb:=depP_b hd
 intro suf
 induction suf with
 | nil =>
  intro pre hp
  obtain ⟨K,hK⟩:=l1Pow_evI b (by omega) (by omega)
  try dsimp only at hK
  try dsimp only at hK
  refine ⟨K+1,fun k hk=>?_⟩
  try dsimp only
  obtain ⟨m,rfl⟩:∃ m,k=m+1:=⟨k - 1,by omega⟩
  try dsimp only
  rw [spec_l8Colors.l0,if_neg (by rw [hp];simp)]
  by_cases h4:a=4
  ·rw [if_pos h4,hK m (by omega),Option.bind_some,l1In_f,Option.bind_some]
   congr 1
   rw [Bool.eq_iff_iff];simp [inAll_nil,h4]
  ·rw [if_neg h4]
   congr 1
   rw [Bool.eq_iff_iff];simp [inAll_nil,h4]
 | cons x suf ih =>
  intro pre hp
  have hll:c.length=pre.length+suf.length+1:=by rw [hp];simp;omega
  have hx:rd c (pre.length:Int)=x:=by rw [hp];exact rd_at _ _ _ rfl
  obtain ⟨K,hK⟩:=ih (pre ++ [x]) (by simp [hp])
  try dsimp only at hK
  try dsimp only at hK
  refine ⟨K+1,fun k hk=>?_⟩
  try dsimp only
  obtain ⟨m,rfl⟩:∃ m,k=m+1:=⟨k - 1,by omega⟩
  try dsimp only
  have hm:=hK m (by omega)
  rw [List.length_append,List.length_singleton,show ((pre.length+1:Nat):Int)=(pre.length:Int)+1 by omega] at hm
  rw [spec_l8Colors.l0,if_pos (by omega),if_pos (by omega),hx,l1In_f,Option.bind_some]
  by_cases hr:0≤x∧x≤16777215
  ·rw [if_pos (decide_eq_true hr),w64 (by omega),hm]
   congr 1
   rw [Bool.eq_iff_iff,decide_eq_true_iff,decide_eq_true_iff,inAll_cons]
   simp [hr]
  ·rw [if_neg (by simpa using hr)]
   congr 1
   symm
   rw [decide_eq_false_iff_not,inAll_cons]
   exact fun h=>hr h.1.1
theorem specImageOk_l0_ev (most a b wd h:Int) (c p:List Int) (hp8:p.length≤1048576):∀ (suf pre:List Int),p=pre ++ suf → Ev (fun k=>spec_ImageOk.l0 k most (pre.length:Int) a b wd h c p) (decide (inAll suf most)):=by
 intro suf
 induction suf with
 | nil =>
  intro pre hp
  refine ⟨1,fun k hk=>?_⟩
  try dsimp only
  obtain ⟨m,rfl⟩:∃ m,k=m+1:=⟨k - 1,by omega⟩
  try dsimp only
  rw [spec_ImageOk.l0,if_neg (by rw [hp];simp),decide_eq_true (inAll_nil most)]
 | cons x suf ih =>
  intro pre hp
  have hll:p.length=pre.length+suf.length+1:=by rw [hp];simp;omega
  have hx:rd p (pre.length:Int)=x:=by rw [hp];exact rd_at _ _ _ rfl
  obtain ⟨K,hK⟩:=ih (pre ++ [x]) (by simp [hp])
  try dsimp only at hK
  try dsimp only at hK
  refine ⟨K+1,fun k hk=>?_⟩
  try dsimp only
  obtain ⟨m,rfl⟩:∃ m,k=m+1:=⟨k - 1,by omega⟩
  try dsimp only
  have hm:=hK m (by omega)
  rw [List.length_append,List.length_singleton,show ((pre.length+1:Nat):Int)=(pre.length:Int)+1 by omega] at hm
  rw [spec_ImageOk.l0,if_pos (by omega),if_pos (by omega),hx,l1In_f,Option.bind_some]
  by_cases hr:0≤x∧x≤most
  ·rw [if_pos (decide_eq_true hr),w64 (by omega),hm]
   congr 1
   rw [Bool.eq_iff_iff,decide_eq_true_iff,decide_eq_true_iff,inAll_cons]
   simp [hr]
  ·rw [if_neg (by simpa using hr)]
   congr 1
   symm
   rw [decide_eq_false_iff_not,inAll_cons]
   exact fun h=>hr h.1
theorem spec_ImageOk_ev (a b wd h:Int) (c p:List Int) (hc:c.length≤1048576) (hp:p.length≤1048576):Ev (fun k=>spec_ImageOk.f k a b wd h c p) (imgM a b wd h c p):=by
 have hfalse:∀ K:Nat,∀ k,K+2≤k → spec_ImageOk.j0 k true a b wd h c p=some false:=by
  intro K k hk
  obtain ⟨m,rfl⟩:∃ m,k=m+1:=⟨k - 1,by omega⟩
  rw [spec_ImageOk.j0,if_pos rfl]
 by_cases hd:depP a b
 ·have hb:=depP_b hd
  obtain ⟨K1,h1⟩:=l8Colors_l0_ev a b wd h c p hd hc c [] rfl
  try dsimp only at h1
  obtain ⟨K2,h2⟩:=l1Pow_evI b (by omega) (by omega)
  try dsimp only at h2
  try dsimp only at h1 h2
  obtain ⟨K3,h3⟩:=specImageOk_l0_ev ((c.length:Int) - 1) a b wd h c p hp p [] rfl
  try dsimp only at h3
  obtain ⟨K4,h4⟩:=specImageOk_l0_ev (P2 b.toNat - 1) a b wd h c p hp p [] rfl
  try dsimp only at h4
  try dsimp only at h3 h4
  have hpb:=P2_62b (n:=b.toNat) (by omega)
  refine ⟨K1+K2+K3+K4+4,fun k hk=>?_⟩
  try dsimp only
  obtain ⟨m,rfl⟩:∃ m,k=m+1:=⟨k - 1,by omega⟩
  try dsimp only
  unfold spec_ImageOk.f
  rw [l8Depth_f,Option.bind_some,if_pos (decide_eq_true hd),l1In_f,Option.bind_some,l1In_f,Option.bind_some]
  unfold imgM
  by_cases hw:1≤wd∧wd≤20
  ·rw [if_pos (decide_eq_true hw)]
   by_cases hh:1≤h∧h≤20
   ·have hm:=mul20 hw hh
    rw [if_pos (decide_eq_true hh),w64 (by omega)]
    by_cases hl:(p.length:Int)=wd * h
    ·have hcc:spec_l8Colors.f (m+1) a b wd h c p=some (decide (inAll c 16777215∧if a=4 then 1≤(c.length:Int)∧(c.length:Int)≤P2 b.toNat else c=[])):=by
      unfold spec_l8Colors.f;exact h1 (m+1) (by omega)
     rw [if_pos hl,hcc,Option.bind_some]
     by_cases hcol:inAll c 16777215∧if a=4 then 1≤(c.length:Int)∧(c.length:Int)≤P2 b.toNat else c=[]
     ·obtain ⟨m',rfl⟩:∃ m',m=m'+2:=⟨m - 2,by omega⟩
      rw [decide_eq_true hcol,spec_ImageOk.j0,if_neg (by decide),h2 _ (by omega),Option.bind_some]
      by_cases ha:a=4
      ·rw [if_pos ha] at hcol
       have:=h3 (m'+1) (by omega)
       rw [if_pos ha,spec_ImageOk.j1,w64 (by omega)]
       rw [show (([]:List Int).length:Int)=0 from rfl] at this
       rw [this]
       congr 1
       rw [Bool.eq_iff_iff,decide_eq_true_iff,decide_eq_true_iff]
       unfold imgP
       exact ⟨fun h=>⟨hd,hw,hh,hl,.inl ⟨ha,hcol.2,hcol.1,h⟩⟩,fun h=>h.2.2.2.2.elim (fun h=>h.2.2.2) (fun h=>absurd ha h.1)⟩
      ·rw [if_neg ha] at hcol
       have:=h4 (m'+1) (by omega)
       rw [if_neg ha,spec_ImageOk.j1,w64 (by omega)]
       rw [show (([]:List Int).length:Int)=0 from rfl] at this
       rw [this]
       congr 1
       rw [Bool.eq_iff_iff,decide_eq_true_iff,decide_eq_true_iff]
       unfold imgP
       exact ⟨fun h=>⟨hd,hw,hh,hl,.inr ⟨ha,hcol.2,h⟩⟩,fun h=>h.2.2.2.2.elim (fun h=>absurd h.1 ha) (fun h=>h.2.2)⟩
     ·rw [decide_eq_false hcol,Bool.not_false,hfalse 0 _ (by omega)]
      congr 1
      symm
      rw [decide_eq_false_iff_not]
      rintro ⟨-,-,-,-,⟨ha,h5,h6,h7⟩|⟨ha,h5,h6⟩⟩
      ·exact hcol ⟨h6,by rw [if_pos ha];exact h5⟩
      ·exact hcol ⟨by rw [h5];exact inAll_nil _,by rw [if_neg ha];exact h5⟩
    ·rw [if_neg hl,hfalse 0 _ (by omega)]
     congr 1;symm;rw [decide_eq_false_iff_not];exact fun h=>hl h.2.2.2.1
   ·rw [if_neg (by simpa using hh),hfalse 0 _ (by omega)]
    congr 1;symm;rw [decide_eq_false_iff_not];exact fun h=>hh h.2.2.1
  ·rw [if_neg (by simpa using hw),hfalse 0 _ (by omega)]
   congr 1;symm;rw [decide_eq_false_iff_not];exact fun h=>hw h.2.1
 ·refine ⟨2,fun k hk=>?_⟩
  try dsimp only
  obtain ⟨m,rfl⟩:∃ m,k=m+1:=⟨k - 1,by omega⟩
  try dsimp only
  unfold spec_ImageOk.f imgM
  rw [l8Depth_f,Option.bind_some,if_neg (by simpa using hd),hfalse 0 _ (by omega)]
  congr 1;symm;rw [decide_eq_false_iff_not];exact fun h=>hd h.1
theorem smallDepth_f (b:Int):impl_smallDepth.f b=some (decide (b=1 ∨ b=2 ∨ b=4 ∨ b=8)):=by
 unfold impl_smallDepth.f
 by_cases h1:b=1
 ·rw [if_pos h1];simp [h1]
 ·rw [if_neg h1]
  by_cases h2:b=2
  ·rw [if_pos h2];simp [h2]
  ·rw [if_neg h2]
   by_cases h4:b=4
   ·rw [if_pos h4];simp [h4]
   ·rw [if_neg h4];congr 1;rw [Bool.eq_iff_iff];simp [h1,h2,h4]
theorem depthOk_f (k:Nat) (a b:Int):impl_depthOk.f (k+1) a b=some (decide (depP a b)):=by
 have hj:∀ t:Bool,impl_depthOk.j0 (k+1) b a t=if t=true then some (decide (b=1 ∨ b=2 ∨ b=4 ∨ b=8)) else some (decide ((a=2∧b=24) ∨ (a=3∧b=32))):=by
  intro t
  rw [impl_depthOk.j0]
  by_cases h:t=true
  ·rw [if_pos h,if_pos h,smallDepth_f,Option.bind_some]
  ·rw [if_neg h,if_neg h]
   by_cases h1:a=2
   ·rw [if_pos h1];congr 1;rw [Bool.eq_iff_iff];simp [h1]
   ·rw [if_neg h1]
    by_cases h2:a=3
    ·rw [if_pos h2];congr 1;rw [Bool.eq_iff_iff];simp [h2]
    ·rw [if_neg h2];congr 1;simp [h1,h2]
 unfold impl_depthOk.f
 rw [hj,hj]
 unfold depP
 by_cases h:a=1
 ·rw [if_pos h,if_pos (by simp [h])];congr 1;simp [h]
 ·rw [if_neg h]
  by_cases h4:a=4
  ·rw [if_pos (by simp [h4])];congr 1;simp [h4]
  ·rw [if_neg (by simp [h4])];congr 1;simp [h,h4]
theorem outside_f (l:List Int) (m:Int):impl_outside.f l m=some (!(decide (inAll l m))):=by unfold impl_outside.f;rw [any_inAll]
theorem impl_ImageOk_f (k:Nat) (a b wd h:Int) (c p:List Int) (hc:c.length≤1048576) (hp:p.length≤1048576):impl_ImageOk.f (k+1) a b wd h c p=some (imgM a b wd h c p):=by
 have hfalse:impl_ImageOk.j0 (k+1) true a b wd h c p=some false:=by rw [impl_ImageOk.j0,if_pos rfl]
 unfold impl_ImageOk.f imgM
 rw [depthOk_f,Option.bind_some]
 by_cases hd:depP a b
 ·have hb:=depP_b hd
  have hpb:=P2_62b (n:=b.toNat) (by omega)
  rw [if_pos (decide_eq_true hd),in_f,Option.bind_some,in_f,Option.bind_some]
  by_cases hw:1≤wd∧wd≤20
  ·rw [if_pos (decide_eq_true hw)]
   by_cases hh:1≤h∧h≤20
   ·have hm:=mul20 hw hh
    rw [if_pos (decide_eq_true hh),w64 (by omega)]
    by_cases hl:(p.length:Int)=wd * h
    ·rw [show ((p.length:Int) != wd * h)=false by simp [hl],impl_ImageOk.j0,if_neg (by decide),shl1_P2 (by omega) (by omega)]
     by_cases ha:a=4
     ·rw [if_pos ha,if_pos (show 0≤b by omega),in_f,Option.bind_some,outside_f,Option.bind_some,outside_f,Option.bind_some,w64 (x:=(c.length:Int) - 1) (by omega),Bool.not_not]
      by_cases h5:1≤(c.length:Int)∧(c.length:Int)≤P2 b.toNat
      ·rw [if_pos (decide_eq_true h5)]
       by_cases h6:inAll c 16777215
       ·rw [if_neg (by simpa using h6)]
        congr 1
        rw [Bool.eq_iff_iff,decide_eq_true_iff,decide_eq_true_iff]
        exact ⟨fun h=>⟨hd,hw,hh,hl,.inl ⟨ha,h5,h6,h⟩⟩,fun h=>h.2.2.2.2.elim (fun h=>h.2.2.2) (fun h=>absurd ha h.1)⟩
       ·rw [if_pos (by simpa using h6)]
        congr 1;symm;rw [decide_eq_false_iff_not]
        exact fun h=>h.2.2.2.2.elim (fun h=>h6 h.2.2.1) (fun h=>h.1 ha)
      ·rw [if_neg (by simpa using h5)]
       congr 1;symm;rw [decide_eq_false_iff_not]
       exact fun h=>h.2.2.2.2.elim (fun h=>h5 h.2.1) (fun h=>h.1 ha)
     ·rw [if_neg ha,if_pos (show 0≤b by omega),w64 (x:=P2 b.toNat - 1) (by omega),outside_f,Option.bind_some,Bool.not_not]
      by_cases h5:(c.length:Int)=0
      ·have h6:c=[]:=List.eq_nil_of_length_eq_zero (by omega)
       rw [if_pos h5]
       congr 1
       rw [Bool.eq_iff_iff,decide_eq_true_iff,decide_eq_true_iff]
       exact ⟨fun h=>⟨hd,hw,hh,hl,.inr ⟨ha,h6,h⟩⟩,fun h=>h.2.2.2.2.elim (fun h=>absurd h.1 ha) (fun h=>h.2.2)⟩
      ·rw [if_neg h5]
       congr 1;symm;rw [decide_eq_false_iff_not]
       exact fun h=>h.2.2.2.2.elim (fun h=>ha h.1) (fun h=>h5 (by rw [h.2.1];rfl))
    ·rw [show ((p.length:Int) != wd * h)=true by simp [hl],hfalse]
     congr 1;symm;rw [decide_eq_false_iff_not];exact fun h=>hl h.2.2.2.1
   ·rw [if_neg (by simpa using hh),hfalse]
    congr 1;symm;rw [decide_eq_false_iff_not];exact fun h=>hh h.2.2.1
  ·rw [if_neg (by simpa using hw),hfalse]
   congr 1;symm;rw [decide_eq_false_iff_not];exact fun h=>hw h.2.1
 ·rw [if_neg (by simpa using hd),hfalse]
  congr 1;symm;rw [decide_eq_false_iff_not];exact fun h=>hd h.1
theorem implColor_f {a b wd h:Int} {c p:List Int} {x:Int} (hd:depP a b) (hx:ptP a b c x):impl_Image_color.f a b wd h c p x=some (colM a b c x):=by
 have hp:=depP_pow hd
 have hb:=depP_b hd
 unfold impl_Image_color.f colM
 by_cases h1:a=1
 ·rcases hx with hx|hx
  ·omega
  ·have hg:=gray_b (x:=x) (m:=P2 b.toNat - 1) (by omega) (by omega)
   rw [if_pos h1,if_pos h1,if_pos (by omega),shl1_P2 (by omega) (by omega),w64 (x:=P2 b.toNat - 1) (by omega),if_neg (by omega),w64 (x:=x * 255) (by omega),tdiv_pos (by omega),w64 (x:=x * 255 / (P2 b.toNat - 1)) (by omega)]
   generalize x * 255 / (P2 b.toNat - 1)=g at hg ⊢
   rw [w64 (x:=g * 65793) (by omega),w64 (x:=g * 65793 * 256) (by omega),w64 (by omega)]
   congr 1;omega
 ·rw [if_neg h1,if_neg h1]
  by_cases h2:a=2
  ·rcases hx with hx|hx
   ·omega
   ·rw [if_pos h2,if_pos h2,w64 (x:=256 * x) (by omega),w64 (by omega)]
  ·rw [if_neg h2,if_neg h2]
   by_cases h4:a=4
   ·rcases hx with hx|hx
    ·rw [if_neg (by omega),if_pos h4,if_pos hx.2.1,if_pos hx.2.2.1,w64 (x:=256 * rd c x) (by omega),w64 (by omega)]
    ·omega
   ·rw [if_pos (by omega),if_neg h4]
theorem specColor_ev {a b wd h:Int} {c p:List Int} {x:Int} (hd:depP a b) (hx:ptP a b c x):Ev (fun k=>spec_l8Color.f k a b wd h c p x) (colM a b c x):=by
 have hp:=depP_pow hd
 have hb:=depP_b hd
 obtain ⟨K,hK⟩:=l1Pow_evI b (by omega) (by omega)
 try dsimp only at hK
 try dsimp only at hK
 refine ⟨K,fun k hk=>?_⟩
 try dsimp only
 try dsimp only
 unfold spec_l8Color.f colM
 by_cases h1:a=1
 ·rcases hx with hx|hx
  ·omega
  ·have hg:=gray_b (x:=x) (m:=P2 b.toNat - 1) (by omega) (by omega)
   rw [if_pos h1,if_pos h1,hK k hk,Option.bind_some,w64 (x:=P2 b.toNat - 1) (by omega),if_neg (by omega),w64 (x:=x * 255) (by omega),tdiv_pos (by omega),w64 (x:=x * 255 / (P2 b.toNat - 1)) (by omega)]
   generalize x * 255 / (P2 b.toNat - 1)=g at hg ⊢
   rw [w64 (x:=g * 16777216) (by omega),w64 (x:=g * 65536) (by omega),w64 (x:=g * 256) (by omega),w64 (x:=g * 16777216+g * 65536) (by omega),w64 (x:=g * 16777216+g * 65536+g * 256) (by omega),w64 (by omega)]
   congr 1;omega
 ·rw [if_neg h1,if_neg h1]
  by_cases h2:a=2
  ·rcases hx with hx|hx
   ·omega
   ·rw [if_pos h2,if_pos h2,w64 (x:=x * 256) (by omega),w64 (by omega)];congr 1;omega
  ·rw [if_neg h2,if_neg h2]
   by_cases h4:a=4
   ·rcases hx with hx|hx
    ·rw [if_pos h4,if_pos h4,if_pos hx.2.1,if_pos hx.2.2.1,w64 (x:=rd c x * 256) (by omega),w64 (by omega)];congr 1;omega
    ·omega
   ·rw [if_neg h4,if_neg h4]
theorem denseP_cons (k d:Int) (c:List Int) (x:Int) (l:List Int):denseP k d c (x :: l) ↔ colM k d c x % 256=255∧denseP k d c l:=by simp [denseP]
theorem specRgb_l0_ev {a b wd h:Int} {c p:List Int} (hd:depP a b) (hp:∀ x ∈ p,ptP a b c x) (hn:p.length≤400):∀ (suf pre:List Int),p=pre ++ suf → Ev (fun k=>spec_ImageRgb.l0 k (pre.length:Int) a b wd h c p 2 24 wd h (rgbL a b c pre)) (if denseP a b c suf then (2,24,wd,h,[],rgbL a b c p,true) else (0,0,0,0,[],[],false)):=by
 intro suf
 induction suf with
 | nil =>
  intro pre e
  refine ⟨1,fun k hk=>?_⟩
  try dsimp only
  obtain ⟨m,rfl⟩:∃ m,k=m+1:=⟨k - 1,by omega⟩
  try dsimp only
  rw [spec_ImageRgb.l0,if_neg (by rw [e];simp),if_pos (by simp [denseP])]
  rw [e];simp
 | cons x suf ih =>
  intro pre e
  have hll:p.length=pre.length+suf.length+1:=by rw [e];simp;omega
  have hx:rd p (pre.length:Int)=x:=by rw [e];exact rd_at _ _ _ rfl
  have hpx:=hp x (by rw [e];simp)
  have hcb:=colM_b hd hpx
  obtain ⟨K1,h1⟩:=specColor_ev (wd:=wd) (h:=h) (p:=p) hd hpx
  try dsimp only at h1
  try dsimp only at h1
  by_cases hc:colM a b c x % 256=255
  ·obtain ⟨K,hK⟩:=ih (pre ++ [x]) (by simp [e])
   try dsimp only at hK
   try dsimp only at hK
   refine ⟨K+K1+1,fun k hk=>?_⟩
   try dsimp only
   obtain ⟨m,rfl⟩:∃ m,k=m+1:=⟨k - 1,by omega⟩
   have hm:=hK m (by omega)
   rw [List.length_append,List.length_singleton,show ((pre.length+1:Nat):Int)=(pre.length:Int)+1 by omega] at hm
   try dsimp only
   rw [spec_ImageRgb.l0,if_pos (by omega),if_pos (by omega),hx,h1 m (by omega),Option.bind_some,tmod_pos hcb.1,if_pos hc,if_pos (by simp [rgbL];omega),w64 (x:=(pre.length:Int)+1) (by omega),tdiv_pos hcb.1,w64 (by omega)]
   rw [show rgbL a b c (pre ++ [x])=rgbL a b c pre ++ [colM a b c x / 256] by simp [rgbL]] at hm
   rw [hm]
   congr 1
   by_cases c9:denseP a b c suf
   ·rw [if_pos c9,if_pos ((denseP_cons a b c x suf).2 ⟨hc,c9⟩)]
   ·rw [if_neg c9,if_neg (fun h9=>c9 ((denseP_cons a b c x suf).1 h9).2)]
  ·refine ⟨K1+1,fun k hk=>?_⟩
   try dsimp only
   obtain ⟨m,rfl⟩:∃ m,k=m+1:=⟨k - 1,by omega⟩
   try dsimp only
   rw [spec_ImageRgb.l0,if_pos (by omega),if_pos (by omega),hx,h1 m (by omega),Option.bind_some,tmod_pos hcb.1,if_neg hc,if_neg (fun h9=>hc ((denseP_cons a b c x suf).1 h9).1)]
theorem implRgb_l0_ev {a b wd h:Int} {c p:List Int} (hd:depP a b) (hp:∀ x ∈ p,ptP a b c x) (hn:p.length≤400):∀ (suf pre:List Int),p=pre ++ suf → Ev (fun k=>impl_ImageRgb.l0 k p (p.length:Int) (pre.length:Int) a b wd h c p 2 24 wd h (rgbL a b c pre)) (if denseP a b c suf then (2,24,wd,h,[],rgbL a b c p,true) else (0,0,0,0,[],[],false)):=by
 intro suf
 induction suf with
 | nil =>
  intro pre e
  refine ⟨1,fun k hk=>?_⟩
  try dsimp only
  obtain ⟨m,rfl⟩:∃ m,k=m+1:=⟨k - 1,by omega⟩
  try dsimp only
  rw [impl_ImageRgb.l0,if_neg (by rw [e];simp),if_pos (by simp [denseP])]
  rw [e];simp
 | cons x suf ih =>
  intro pre e
  have hll:p.length=pre.length+suf.length+1:=by rw [e];simp;omega
  have hx:rd p (pre.length:Int)=x:=by rw [e];exact rd_at _ _ _ rfl
  have hpx:=hp x (by rw [e];simp)
  have hcb:=colM_b hd hpx
  have h1:=implColor_f (wd:=wd) (h:=h) (p:=p) hd hpx
  by_cases hc:colM a b c x % 256=255
  ·obtain ⟨K,hK⟩:=ih (pre ++ [x]) (by simp [e])
   try dsimp only at hK
   try dsimp only at hK
   refine ⟨K+1,fun k hk=>?_⟩
   try dsimp only
   obtain ⟨m,rfl⟩:∃ m,k=m+1:=⟨k - 1,by omega⟩
   have hm:=hK m (by omega)
   rw [List.length_append,List.length_singleton,show ((pre.length+1:Nat):Int)=(pre.length:Int)+1 by omega] at hm
   try dsimp only
   rw [impl_ImageRgb.l0,if_pos (by omega),if_pos (by omega),if_pos (by omega),hx,h1,Option.bind_some,tmod_pos hcb.1,if_pos hc,if_pos (by simp [rgbL];omega),w64 (x:=(pre.length:Int)+1) (by omega),tdiv_pos hcb.1,w64 (by omega)]
   rw [show rgbL a b c (pre ++ [x])=rgbL a b c pre ++ [colM a b c x / 256] by simp [rgbL]] at hm
   rw [hm]
   congr 1
   by_cases c9:denseP a b c suf
   ·rw [if_pos c9,if_pos ((denseP_cons a b c x suf).2 ⟨hc,c9⟩)]
   ·rw [if_neg c9,if_neg (fun h9=>c9 ((denseP_cons a b c x suf).1 h9).2)]
  ·refine ⟨1,fun k hk=>?_⟩
   try dsimp only
   obtain ⟨m,rfl⟩:∃ m,k=m+1:=⟨k - 1,by omega⟩
   try dsimp only
   rw [impl_ImageRgb.l0,if_pos (by omega),if_pos (by omega),if_pos (by omega),hx,h1,Option.bind_some,tmod_pos hcb.1,if_neg hc,if_neg (fun h9=>hc ((denseP_cons a b c x suf).1 h9).1)]
theorem imgP_len' {a b wd h:Int} {c p:List Int} (hi:imgP a b wd h c p):(p.length:Int)=wd * h∧p.length≤400:=by
 obtain ⟨-,hw,hh,hl,-⟩:=hi
 have:=mul20 hw hh
 omega
theorem specRgb_ev (a b wd h:Int) (c p:List Int) (hc:c.length≤1048576) (hp:p.length≤1048576):Ev (fun k=>spec_ImageRgb.f k a b wd h c p) (rgbM a b wd h c p):=by
 obtain ⟨K1,h1⟩:=spec_ImageOk_ev a b wd h c p hc hp
 try dsimp only at h1
 try dsimp only at h1
 unfold rgbM
 by_cases hi:imgP a b wd h c p
 ·obtain ⟨K2,h2⟩:=specRgb_l0_ev (wd:=wd) (h:=h) hi.1 (fun x hx=>imgP_pt hi hx) (imgP_len' hi).2 p [] rfl
  try dsimp only at h2
  try dsimp only at h2
  refine ⟨K1+K2,fun k hk=>?_⟩
  try dsimp only
  have h2':=h2 k (by omega)
  try dsimp only
  unfold spec_ImageRgb.f
  rw [h1 k (by omega),Option.bind_some]
  unfold imgM
  rw [if_pos (decide_eq_true hi)]
  refine h2'.trans ?_
  congr 1
  by_cases c9:denseP a b c p
  ·rw [if_pos c9,if_pos ⟨hi,c9⟩]
  ·rw [if_neg c9,if_neg (fun e=>c9 e.2)]
 ·refine ⟨K1,fun k hk=>?_⟩
  try dsimp only
  try dsimp only
  unfold spec_ImageRgb.f
  rw [h1 k (by omega),Option.bind_some]
  unfold imgM
  rw [if_neg (by simpa using hi),if_neg (fun e=>hi e.1)]
theorem implRgb_ev (a b wd h:Int) (c p:List Int) (hc:c.length≤1048576) (hp:p.length≤1048576):Ev (fun k=>impl_ImageRgb.f k a b wd h c p) (rgbM a b wd h c p):=by
 have h1:=fun k=>impl_ImageOk_f k a b wd h c p hc hp
 unfold rgbM
 by_cases hi:imgP a b wd h c p
 ·obtain ⟨K2,h2⟩:=implRgb_l0_ev (wd:=wd) (h:=h) hi.1 (fun x hx=>imgP_pt hi hx) (imgP_len' hi).2 p [] rfl
  try dsimp only at h2
  try dsimp only at h2
  refine ⟨K2+1,fun k hk=>?_⟩
  try dsimp only
  obtain ⟨m,rfl⟩:∃ m,k=m+1:=⟨k - 1,by omega⟩
  have h2':=h2 (m+1) (by omega)
  try dsimp only
  unfold impl_ImageRgb.f
  rw [h1,Option.bind_some]
  unfold imgM
  rw [if_pos (decide_eq_true hi)]
  refine h2'.trans ?_
  congr 1
  by_cases c9:denseP a b c p
  ·rw [if_pos c9,if_pos ⟨hi,c9⟩]
  ·rw [if_neg c9,if_neg (fun e=>c9 e.2)]
 ·refine ⟨1,fun k hk=>?_⟩
  try dsimp only
  obtain ⟨m,rfl⟩:∃ m,k=m+1:=⟨k - 1,by omega⟩
  try dsimp only
  unfold impl_ImageRgb.f
  rw [h1,Option.bind_some]
  unfold imgM
  rw [if_neg (by simpa using hi),if_neg (fun e=>hi e.1)]
theorem rgbM_small (a b wd h:Int) (c p:List Int):(rgbM a b wd h c p).2.2.2.2.1.length≤400∧(rgbM a b wd h c p).2.2.2.2.2.1.length≤400:=by
 unfold rgbM
 split
 ·rename_i e
  have:=(imgP_len' e.1).2
  simp [rgbL];omega
 ·simp
theorem l8Find_l0_ev (L:List Int) (x:Int) (hl:L.length≤1000):∀ (suf pre:List Int),L=pre ++ suf → Ev (fun k=>spec_l8Find.l0 k L x (pre.length:Int)) (findM suf x (pre.length:Int)):=by
 intro suf
 induction suf with
 | nil =>
  intro pre e
  refine ⟨1,fun k hk=>?_⟩
  try dsimp only
  obtain ⟨m,rfl⟩:∃ m,k=m+1:=⟨k - 1,by omega⟩
  try dsimp only
  rw [spec_l8Find.l0,if_neg (by rw [e];simp)];rfl
 | cons y suf ih =>
  intro pre e
  have hll:L.length=pre.length+suf.length+1:=by rw [e];simp;omega
  have hy:rd L (pre.length:Int)=y:=by rw [e];exact rd_at _ _ _ rfl
  obtain ⟨K,hK⟩:=ih (pre ++ [y]) (by simp [e])
  try dsimp only at hK
  try dsimp only at hK
  refine ⟨K+1,fun k hk=>?_⟩
  try dsimp only
  obtain ⟨m,rfl⟩:∃ m,k=m+1:=⟨k - 1,by omega⟩
  have hm:=hK m (by omega)
  rw [List.length_append,List.length_singleton,show ((pre.length+1:Nat):Int)=(pre.length:Int)+1 by omega] at hm
  try dsimp only
  rw [spec_l8Find.l0,if_pos (by omega),if_pos (by omega),hy]
  simp only [findM]
  by_cases c:y=x
  ·rw [if_pos c,if_pos c]
  ·rw [if_neg c,if_neg c,w64 (by omega)];exact hm
theorem l8Find_ev (L:List Int) (x:Int) (hl:L.length≤1000):Ev (fun k=>spec_l8Find.f k L x) (findM L x 0):=by
 obtain ⟨K,hK⟩:=l8Find_l0_ev L x hl L [] rfl
 try dsimp only at hK
 exact ⟨K,fun k hk=>hK k hk⟩
def palR (wd h:Int) (q:List Int × List Int):Int × Int × Int × Int × List Int × List Int × Bool :=
 if q.1.length≤256 then (4,depOf q.1.length,wd,h,q.1,q.2,true) else (0,0,0,0,[],[],false)
theorem specPal_l1_ev (wd h:Int) (cs out:List Int):Ev (fun k=>spec_ImagePal.l1 k 4 1 wd h cs out) (palR wd h (cs,out)) ∨ 65536 < cs.length:=by
 by_cases hl:65536 < cs.length
 ·exact .inr hl
 left
 obtain ⟨K1,h1⟩:=l1Pow_evI 1 (by omega) (by omega)
 try dsimp only at h1
 obtain ⟨K2,h2⟩:=l1Pow_evI 2 (by omega) (by omega)
 try dsimp only at h2
 obtain ⟨K4,h4⟩:=l1Pow_evI 4 (by omega) (by omega)
 try dsimp only at h4
 obtain ⟨K8,h8⟩:=l1Pow_evI 8 (by omega) (by omega)
 try dsimp only at h8
 obtain ⟨K16,h16⟩:=l1Pow_evI 16 (by omega) (by omega)
 try dsimp only at h16
 try dsimp only at h1 h2 h4 h8 h16
 rw [show P2 (1:Int).toNat=2 from rfl] at h1
 rw [show P2 (2:Int).toNat=4 from rfl] at h2
 rw [show P2 (4:Int).toNat=16 from rfl] at h4
 rw [show P2 (8:Int).toNat=256 from rfl] at h8
 rw [show P2 (16:Int).toNat=65536 from rfl] at h16
 refine ⟨K1+K2+K4+K8+K16+5,fun k hk=>?_⟩
 try dsimp only
 obtain ⟨m,rfl⟩:∃ m,k=m+5:=⟨k - 5,by omega⟩
 try dsimp only
 unfold palR depOf
 try dsimp only
 rw [spec_ImagePal.l1,h1 _ (by omega),Option.bind_some]
 by_cases c1:2 < (cs.length:Int)
 ·rw [if_pos c1,show wrap64 ((1:Int) * 2)=2 from by rw [w64 (by omega)];rfl,spec_ImagePal.l1,h2 _ (by omega),Option.bind_some]
  by_cases c2:4 < (cs.length:Int)
  ·rw [if_pos c2,show wrap64 ((2:Int) * 2)=4 from by rw [w64 (by omega)];rfl,spec_ImagePal.l1,h4 _ (by omega),Option.bind_some]
   by_cases c4:16 < (cs.length:Int)
   ·rw [if_pos c4,show wrap64 ((4:Int) * 2)=8 from by rw [w64 (by omega)];rfl,spec_ImagePal.l1,h8 _ (by omega),Option.bind_some]
    by_cases c8:256 < (cs.length:Int)
    ·rw [if_pos c8,show wrap64 ((8:Int) * 2)=16 from by rw [w64 (by omega)];rfl,spec_ImagePal.l1,h16 _ (by omega),Option.bind_some,if_neg (by omega),if_pos (by omega),if_neg (by omega)]
    ·rw [if_neg c8,if_neg (by omega),if_pos (by omega),if_neg (by omega),if_neg (by omega),if_neg (by omega)]
   ·rw [if_neg c4,if_neg (by omega),if_pos (by omega),if_neg (by omega),if_neg (by omega),if_pos (by omega)]
  ·rw [if_neg c2,if_neg (by omega),if_pos (by omega),if_neg (by omega),if_pos (by omega)]
 ·rw [if_neg c1,if_neg (by omega),if_pos (by omega),if_pos (by omega)]
theorem specPal_l0_ev (q0 q1 q2 q3:Int) (q4:List Int) (wd h:Int) (p:List Int) (hn:p.length≤400):∀ (suf pre cs out:List Int),p=pre ++ suf → cs.length≤pre.length → out.length=pre.length → Ev (fun k=>spec_ImagePal.l0 k (pre.length:Int) q0 q1 q2 q3 q4 p 4 1 wd h cs out) (palR wd h (palL suf cs out)):=by
 intro suf
 induction suf with
 | nil =>
  intro pre cs out e hc ho
  have hpl:pre.length≤400:=by rw [e] at hn;simp at hn;omega
  rcases specPal_l1_ev wd h cs out with ⟨K,hK⟩|hK
  ·refine ⟨K+1,fun k hk=>?_⟩
   try dsimp only
   obtain ⟨m,rfl⟩:∃ m,k=m+1:=⟨k - 1,by omega⟩
   try dsimp only
   rw [spec_ImagePal.l0,if_neg (by rw [e];simp)]
   exact hK m (by omega)
  ·omega
 | cons x suf ih =>
  intro pre cs out e hc ho
  have hll:p.length=pre.length+suf.length+1:=by rw [e];simp;omega
  have hx:rd p (pre.length:Int)=x:=by rw [e];exact rd_at _ _ _ rfl
  obtain ⟨K1,h1⟩:=l8Find_ev cs x (by omega)
  try dsimp only at h1
  try dsimp only at h1
  simp only [palL]
  by_cases c:findM cs x 0 < 0
  ·rw [if_pos c]
   obtain ⟨K,hK⟩:=ih (pre ++ [x]) (cs ++ [x]) (out ++ [(cs.length:Int)]) (by simp [e]) (by simp;omega) (by simp [ho])
   try dsimp only at hK
   try dsimp only at hK
   refine ⟨K+K1+1,fun k hk=>?_⟩
   try dsimp only
   obtain ⟨m,rfl⟩:∃ m,k=m+1:=⟨k - 1,by omega⟩
   have hm:=hK m (by omega)
   rw [List.length_append,List.length_singleton,show ((pre.length+1:Nat):Int)=(pre.length:Int)+1 by omega] at hm
   try dsimp only
   rw [spec_ImagePal.l0,if_pos (by omega),if_pos (by omega),hx,h1 m (by omega),Option.bind_some,if_pos c,if_pos (by omega),if_pos (by omega),w64 (by omega)]
   exact hm
  ·rw [if_neg c]
   obtain ⟨K,hK⟩:=ih (pre ++ [x]) cs (out ++ [findM cs x 0]) (by simp [e]) (by simp;omega) (by simp [ho])
   try dsimp only at hK
   try dsimp only at hK
   refine ⟨K+K1+1,fun k hk=>?_⟩
   try dsimp only
   obtain ⟨m,rfl⟩:∃ m,k=m+1:=⟨k - 1,by omega⟩
   have hm:=hK m (by omega)
   rw [List.length_append,List.length_singleton,show ((pre.length+1:Nat):Int)=(pre.length:Int)+1 by omega] at hm
   try dsimp only
   rw [spec_ImagePal.l0,if_pos (by omega),if_pos (by omega),hx,h1 m (by omega),Option.bind_some,if_neg c,if_pos (by omega),w64 (by omega)]
   exact hm
theorem palM_of (a b wd h:Int) (c p:List Int):palM a b wd h c p=if imgP a b wd h c p∧denseP a b c p then palR wd h (palL (rgbL a b c p) [] []) else (0,0,0,0,[],[],false):=by
 unfold palM palR
 by_cases c9:imgP a b wd h c p∧denseP a b c p
 ·rw [if_pos c9]
  by_cases c8:(palL (rgbL a b c p) [] []).1.length≤256
  ·rw [if_pos c8,if_pos ⟨c9.1,c9.2,c8⟩]
  ·rw [if_neg c8,if_neg (fun e=>c8 e.2.2)]
 ·rw [if_neg c9,if_neg (fun e=>c9 ⟨e.1,e.2.1⟩)]
theorem specPal_ev (a b wd h:Int) (c p:List Int) (hc:c.length≤1048576) (hp:p.length≤1048576):Ev (fun k=>spec_ImagePal.f k a b wd h c p) (palM a b wd h c p):=by
 obtain ⟨K1,h1⟩:=specRgb_ev a b wd h c p hc hp
 try dsimp only at h1
 try dsimp only at h1
 rw [palM_of]
 by_cases c9:imgP a b wd h c p∧denseP a b c p
 ·have hrl:(rgbL a b c p).length≤400:=by have:=(imgP_len' c9.1).2;simp [rgbL];omega
  obtain ⟨K2,h2⟩:=specPal_l0_ev 2 24 wd h [] wd h (rgbL a b c p) hrl (rgbL a b c p) [] [] [] rfl (by simp) (by simp)
  try dsimp only at h2
  try dsimp only at h2
  have e1:rgbM a b wd h c p=(2,24,wd,h,[],rgbL a b c p,true):=by unfold rgbM;exact if_pos c9
  refine ⟨K1+K2,fun k hk=>?_⟩
  try dsimp only
  try dsimp only
  unfold spec_ImagePal.f
  rw [h1 k (by omega),Option.bind_some,e1]
  try dsimp only
  rw [if_pos rfl,if_pos c9]
  exact h2 k (by omega)
 ·have e1:rgbM a b wd h c p=(0,0,0,0,[],[],false):=by unfold rgbM;exact if_neg c9
  refine ⟨K1,fun k hk=>?_⟩
  try dsimp only
  try dsimp only
  unfold spec_ImagePal.f
  rw [h1 k (by omega),Option.bind_some,e1]
  try dsimp only
  rw [if_neg (by decide),if_neg c9]
theorem palM_small (a b wd h:Int) (c p:List Int):(palM a b wd h c p).2.2.2.2.1.length≤400∧(palM a b wd h c p).2.2.2.2.2.1.length≤400:=by
 unfold palM
 split
 ·rename_i e
  have:=(imgP_len' e.1).2
  have:=palL_length (rgbL a b c p) [] []
  have h2:(rgbL a b c p).length=p.length:=by simp [rgbL]
  simp at this ⊢;omega
 ·simp
theorem clone_f (l:List Int) (hl:l.length≤1048576):slices_Clone_int_int.f l=some l:=by
 unfold slices_Clone_int_int.f
 rw [Option.bind_some,if_pos (by simp;omega),List.nil_append]
theorem blank_f (a b wd h:Int) (c p:List Int) (x y:Int) (hl:c.length≤1048576):spec_l8Blank.f a b wd h c p x y=some (a,b,x,y,c,[]):=by
 unfold spec_l8Blank.f
 rw [Option.bind_some,if_pos (by simp;omega),List.nil_append]
theorem made_l1_ev (cl:Int → Int → Option (Int × Int)) (fa fb:Nat → Nat → Int) (a b wd h:Int) (c p:List Int) (q0 q1 q2 q3:Int) (q4:List Int) (wide high y:Nat) (hw:wide≤20) (hh:high≤20) (hy:y < high) (hp:p.length≤400) (hwd:1≤wd∧wd≤20)
  (hcl:∀ x:Nat,x < wide → cl (x:Int) (y:Int)=some (fa x y,fb x y)∧(0≤fb x y∧fb x y≤20)∧(0≤fa x y∧fa x y≤20)∧fb x y * wd+fa x y < p.length) (out:List Int) (ho:out.length≤y * wide) (r:Int × Int × Int × Int × List Int × List Int)
  (hnext:Ev (fun k=>impl_Image_made.l0 cl k (wide:Int) (high:Int) ((y:Int)+1) a b wd h c p q0 q1 q2 q3 q4 (out ++ rowL (fun x y=>rd p (fb x y * wd+fa x y)) wide y)) r) :
  ∀ d x:Nat,x+d=wide → Ev (fun k=>impl_Image_made.l1 cl k (wide:Int) (y:Int) (high:Int) (y:Int) (wide:Int) (x:Int) a b wd h c p q0 q1 q2 q3 q4 (out ++ rowL (fun x y=>rd p (fb x y * wd+fa x y)) x y)) r:=by
 intro d
 induction d with
 | zero =>
  intro x hx
  obtain ⟨K,hK⟩:=hnext
  try dsimp only at hK
  try dsimp only at hK
  refine ⟨K+1,fun k hk=>?_⟩
  try dsimp only
  obtain ⟨m,rfl⟩:∃ m,k=m+1:=⟨k - 1,by omega⟩
  have e:x=wide:=by omega
  subst e
  try dsimp only
  rw [impl_Image_made.l1,if_neg (by omega),w64 (by omega)]
  exact hK m (by omega)
 | succ d ih =>
  intro x hx
  obtain ⟨K,hK⟩:=ih (x+1) (by omega)
  try dsimp only at hK
  try dsimp only at hK
  obtain ⟨h1,h2,h3,h4⟩:=hcl x (by omega)
  have h5:0≤fb x y * wd:=Int.mul_nonneg h2.1 (by omega)
  have h6:y * wide≤20 * 20:=Nat.mul_le_mul (by omega) hw
  refine ⟨K+1,fun k hk=>?_⟩
  try dsimp only
  obtain ⟨m,rfl⟩:∃ m,k=m+1:=⟨k - 1,by omega⟩
  have hm:=hK m (by omega)
  try dsimp only
  rw [impl_Image_made.l1,if_pos (by omega),h1,Option.bind_some]
  try dsimp only
  rw [w64 (x:=fb x y * wd) (by omega),w64 (x:=fb x y * wd+fa x y) (by omega),if_pos (by omega),if_pos h4,if_pos (by rw [List.length_append,rowL_length];omega),w64 (by omega),List.append_assoc,← rowL_succ (fun x y=>rd p (fb x y * wd+fa x y))]
  rw [show ((x+1:Nat):Int)=(x:Int)+1 by omega] at hm
  exact hm
theorem made_l0_ev (cl:Int → Int → Option (Int × Int)) (fa fb:Nat → Nat → Int) (a b wd h:Int) (c p:List Int) (q0 q1 q2 q3:Int) (q4:List Int) (wide high:Nat) (hw:wide≤20) (hh:high≤20) (hp:p.length≤400) (hwd:1≤wd∧wd≤20)
  (hcl:∀ x y:Nat,x < wide → y < high → cl (x:Int) (y:Int)=some (fa x y,fb x y)∧(0≤fb x y∧fb x y≤20)∧(0≤fa x y∧fa x y≤20)∧fb x y * wd+fa x y < p.length) :
  ∀ d y:Nat,y+d=high → Ev (fun k=>impl_Image_made.l0 cl k (wide:Int) (high:Int) (y:Int) a b wd h c p q0 q1 q2 q3 q4 (genL (fun x y=>rd p (fb x y * wd+fa x y)) wide y)) (q0,q1,q2,q3,q4,genL (fun x y=>rd p (fb x y * wd+fa x y)) wide high):=by
 intro d
 induction d with
 | zero =>
  intro y hy
  refine ⟨1,fun k hk=>?_⟩
  try dsimp only
  obtain ⟨m,rfl⟩:∃ m,k=m+1:=⟨k - 1,by omega⟩
  have e:y=high:=by omega
  subst e
  try dsimp only
  rw [impl_Image_made.l0,if_neg (by omega)]
 | succ d ih =>
  intro y hy
  have hn:=ih (y+1) (by omega)
  rw [genL_succ,show ((y+1:Nat):Int)=(y:Int)+1 by omega] at hn
  obtain ⟨K,hK⟩:=made_l1_ev cl fa fb a b wd h c p q0 q1 q2 q3 q4 wide high y hw hh (by omega) hp hwd (fun x hx=>hcl x y hx (by omega)) _ (by rw [genL_length];omega) _ hn wide 0 (by omega)
  try dsimp only at hK
  try dsimp only at hK
  refine ⟨K+1,fun k hk=>?_⟩
  try dsimp only
  obtain ⟨m,rfl⟩:∃ m,k=m+1:=⟨k - 1,by omega⟩
  have hm:=hK m (by omega)
  try dsimp only
  rw [impl_Image_made.l0,if_pos (by omega)]
  simp only [rowL,List.range_zero,List.map_nil,List.append_nil] at hm
  exact hm
theorem made_ev (cl:Int → Int → Option (Int × Int)) (fa fb:Nat → Nat → Int) (a b wd h:Int) (c p:List Int) (wide high:Nat) (hw:wide≤20) (hh:high≤20) (hc:c.length≤1048576) (hp:p.length≤400) (hwd:1≤wd∧wd≤20)
  (hcl:∀ x y:Nat,x < wide → y < high → cl (x:Int) (y:Int)=some (fa x y,fb x y)∧(0≤fb x y∧fb x y≤20)∧(0≤fa x y∧fa x y≤20)∧fb x y * wd+fa x y < p.length) :
  Ev (fun k=>impl_Image_made.f cl k a b wd h c p (wide:Int) (high:Int)) (a,b,(wide:Int),(high:Int),c,genL (fun x y=>rd p (fb x y * wd+fa x y)) wide high):=by
 obtain ⟨K,hK⟩:=made_l0_ev cl fa fb a b wd h c p a b wide high c wide high hw hh hp hwd hcl high 0 (by omega)
 try dsimp only at hK
 try dsimp only at hK
 refine ⟨K,fun k hk=>?_⟩
 try dsimp only
 try dsimp only
 unfold impl_Image_made.f
 rw [clone_f c hc,Option.bind_some]
 exact hK k hk
theorem specFlip_l0_ev (a b:Int) (W H:Nat) (c p:List Int) (q0 q1 q2 q3:Int) (q4:List Int) (hW:1≤W∧W≤20) (hH:1≤H∧H≤20) (hp:p.length=H * W):∀ d i:Nat,i+d=H → Ev (fun k=>spec_ImageFlip.l0 k ((H:Int) - 1 - (i:Int)) a b (W:Int) (H:Int) c p q0 q1 q2 q3 q4 (genL (fun x y=>rd p (((H:Int) - 1 - (y:Int)) * (W:Int)+(x:Int))) W i)) (q0,q1,q2,q3,q4,genL (fun x y=>rd p (((H:Int) - 1 - (y:Int)) * (W:Int)+(x:Int))) W H):=by
 intro d
 induction d with
 | zero =>
  intro i hi
  refine ⟨1,fun k hk=>?_⟩
  try dsimp only
  obtain ⟨m,rfl⟩:∃ m,k=m+1:=⟨k - 1,by omega⟩
  have e:i=H:=by omega
  subst e
  try dsimp only
  rw [spec_ImageFlip.l0,if_neg (by omega)]
 | succ d ih =>
  intro i hi
  obtain ⟨K,hK⟩:=ih (i+1) (by omega)
  try dsimp only at hK
  try dsimp only at hK
  obtain ⟨r,hr⟩:∃ r:Nat,(H:Int) - 1 - (i:Int)=(r:Int):=⟨H - 1 - i,by omega⟩
  have hrH:r+1≤H:=by omega
  have h1:(r+1) * W≤H * W:=Nat.mul_le_mul_right _ hrH
  have h2:H * W≤20 * 20:=Nat.mul_le_mul hH.2 hW.2
  have h3:(r+1) * W=r * W+W:=Nat.succ_mul r W
  have e1:(r:Int) * (W:Int)=((r * W:Nat):Int):=by simp
  have e2:((r:Int)+1) * (W:Int)=((r * W+W:Nat):Int):=by rw [Int.add_mul];simp
  refine ⟨K+1,fun k hk=>?_⟩
  try dsimp only
  obtain ⟨m,rfl⟩:∃ m,k=m+1:=⟨k - 1,by omega⟩
  have hm:=hK m (by omega)
  try dsimp only
  rw [hr,spec_ImageFlip.l0,if_pos (by omega),e1,w64 (x:=(r:Int)+1) (by omega),e2,w64 (x:=((r * W:Nat):Int)) (by omega),w64 (x:=((r * W+W:Nat):Int)) (by omega),if_pos (by omega),if_pos (by omega),if_pos (by omega),Int.toNat_natCast,Int.toNat_natCast,cut_row p (r * W) W (by omega)]
  have hgl:=genL_length (fun x y=>rd p (((H:Int) - 1 - (y:Int)) * (W:Int)+(x:Int))) W i
  have hiW:i * W≤20 * 20:=Nat.mul_le_mul (by omega) hW.2
  rw [if_pos (by rw [hgl];simp;omega),w64 (by omega)]
  rw [genL_succ,show (H:Int) - 1 - ((i+1:Nat):Int)=(r:Int) - 1 by omega] at hm
  rw [show (List.range W).map (fun j:Nat=>rd p (((r * W:Nat):Int)+(j:Int)))=rowL (fun x y=>rd p (((H:Int) - 1 - (y:Int)) * (W:Int)+(x:Int))) W i by unfold rowL;simp only [hr,e1]]
  exact hm
theorem specFlip_ev (a b wd h:Int) (c p:List Int) (hc:c.length≤1048576) (hp:p.length≤1048576):Ev (fun k=>spec_ImageFlip.f k a b wd h c p) (flipM a b wd h c p):=by
 obtain ⟨K1,h1⟩:=spec_ImageOk_ev a b wd h c p hc hp
 try dsimp only at h1
 try dsimp only at h1
 by_cases hi:imgP a b wd h c p
 ·have hi2:=hi
  obtain ⟨hd,hw,hh,hl,-⟩:=hi2
  have e2:flipM a b wd h c p=(a,b,wd,h,c,flipL wd h p):=if_pos hi
  obtain ⟨W,rfl⟩:∃ W:Nat,wd=(W:Int):=⟨wd.toNat,by omega⟩
  obtain ⟨H,rfl⟩:∃ H:Nat,h=(H:Int):=⟨h.toNat,by omega⟩
  have hpl:p.length=H * W:=by
   rw [Nat.mul_comm]
   have:(p.length:Int)=((W * H:Nat):Int):=by rw [hl];simp
   omega
  obtain ⟨K2,h2⟩:=specFlip_l0_ev a b W H c p a b W H c (by omega) (by omega) hpl H 0 (by omega)
  try dsimp only at h2
  try dsimp only at h2
  refine ⟨K1+K2,fun k hk=>?_⟩
  try dsimp only
  have h2':=h2 k (by omega)
  try dsimp only
  unfold spec_ImageFlip.f
  rw [h1 k (by omega),Option.bind_some]
  unfold imgM
  rw [if_pos (decide_eq_true hi),blank_f _ _ _ _ _ _ _ _ hc,Option.bind_some,e2]
  try dsimp only
  rw [show (H:Int) - 1 - ((0:Nat):Int)=(H:Int) - 1 by omega] at h2'
  rw [w64 (by omega)]
  unfold flipL
  rw [Int.toNat_natCast,Int.toNat_natCast]
  exact h2'
 ·have e2:flipM a b wd h c p=(0,0,0,0,[],[]):=if_neg hi
  refine ⟨K1,fun k hk=>?_⟩
  try dsimp only
  try dsimp only
  unfold spec_ImageFlip.f
  rw [h1 k (by omega),Option.bind_some]
  unfold imgM
  rw [if_neg (by simpa using hi),e2]
theorem implFlip_ev (a b wd h:Int) (c p:List Int) (hc:c.length≤1048576) (hp:p.length≤1048576):Ev (fun k=>impl_ImageFlip.f k a b wd h c p) (flipM a b wd h c p):=by
 have h1:=fun k=>impl_ImageOk_f k a b wd h c p hc hp
 by_cases hi:imgP a b wd h c p
 ·have hi2:=hi
  obtain ⟨hd,hw,hh,hl,-⟩:=hi2
  have e2:flipM a b wd h c p=(a,b,wd,h,c,flipL wd h p):=if_pos hi
  obtain ⟨W,rfl⟩:∃ W:Nat,wd=(W:Int):=⟨wd.toNat,by omega⟩
  obtain ⟨H,rfl⟩:∃ H:Nat,h=(H:Int):=⟨h.toNat,by omega⟩
  have hmm:=mul20 hw hh
  obtain ⟨K2,h2⟩:=made_ev (fun x y=>some (x,wrap64 (wrap64 ((H:Int) - 1) - y))) (fun x _=>(x:Int)) (fun _ y=>(H:Int) - 1 - (y:Int)) a b W H c p W H (by omega) (by omega) hc (by omega) hw (fun x y hx hy=>by
   refine ⟨?_,by omega,by omega,?_⟩
   ·try dsimp only
    rw [w64 (x:=(H:Int) - 1) (by omega),w64 (by omega)]
   ·have:=(place_lt hw hh (x:=(x:Int)) (y:=(H:Int) - 1 - (y:Int)) (by omega) (by omega)).2.1
    rw [hl];exact this)
  try dsimp only at h2
  try dsimp only at h2
  refine ⟨K2+1,fun k hk=>?_⟩
  try dsimp only
  obtain ⟨m,rfl⟩:∃ m,k=m+1:=⟨k - 1,by omega⟩
  have h2':=h2 (m+1) (by omega)
  try dsimp only
  unfold impl_ImageFlip.f
  rw [h1,Option.bind_some]
  unfold imgM
  rw [if_pos (decide_eq_true hi),h2',Option.bind_some,e2]
  try dsimp only
  unfold flipL
  rw [Int.toNat_natCast,Int.toNat_natCast]
 ·have e2:flipM a b wd h c p=(0,0,0,0,[],[]):=if_neg hi
  refine ⟨1,fun k hk=>?_⟩
  try dsimp only
  obtain ⟨m,rfl⟩:∃ m,k=m+1:=⟨k - 1,by omega⟩
  try dsimp only
  unfold impl_ImageFlip.f
  rw [h1,Option.bind_some]
  unfold imgM
  rw [if_neg (by simpa using hi),e2]
theorem flipM_small (a b wd h:Int) (c p:List Int) (hc:c.length≤1048576):(flipM a b wd h c p).2.2.2.2.1.length≤1048576∧(flipM a b wd h c p).2.2.2.2.2.length≤400:=by
 unfold flipM
 split
 ·rename_i e
  obtain ⟨-,hw,hh,-,-⟩:=e
  exact ⟨hc,genL_small _ (by omega) (by omega)⟩
 ·simp
theorem specLike_l0_ev {a b wd h:Int} {c p:List Int} {a' b' wd' h':Int} {c' p':List Int} (hd:depP a b) (hd':depP a' b') (hp:∀ x ∈ p,ptP a b c x) (hp':∀ x ∈ p',ptP a' b' c' x) (hl:p.length=p'.length) (hn:p.length≤400):∀ (suf suf' pre pre':List Int),p=pre ++ suf → p'=pre' ++ suf' → pre.length=pre'.length → Ev (fun k=>spec_ImageLike.l0 k (pre.length:Int) a b wd h c p a' b' wd' h' c' p') (decide (suf.map (colM a b c)=suf'.map (colM a' b' c'))):=by
 intro suf
 induction suf with
 | nil =>
  intro suf' pre pre' e e' hpp
  have hs:suf'=[]:=List.eq_nil_of_length_eq_zero (by have h1:=congrArg List.length e;have h2:=congrArg List.length e';simp at h1 h2;omega)
  subst hs
  refine ⟨1,fun k hk=>?_⟩
  try dsimp only
  obtain ⟨m,rfl⟩:∃ m,k=m+1:=⟨k - 1,by omega⟩
  try dsimp only
  rw [spec_ImageLike.l0,if_neg (by rw [e];simp)];simp
 | cons x suf ih =>
  intro suf' pre pre' e e' hpp
  cases suf' with
  | nil=>have h1:=congrArg List.length e;have h2:=congrArg List.length e';simp at h1 h2;omega
  | cons y suf' =>
   have hll:p.length=pre.length+suf.length+1:=by rw [e];simp;omega
   have hx:rd p (pre.length:Int)=x:=by rw [e];exact rd_at _ _ _ rfl
   have hy:rd p' (pre.length:Int)=y:=by rw [e'];exact rd_at _ _ _ (by omega)
   obtain ⟨K1,h1⟩:=specColor_ev (wd:=wd) (h:=h) (p:=p) hd (hp x (by rw [e];simp))
   try dsimp only at h1
   obtain ⟨K2,h2⟩:=specColor_ev (wd:=wd') (h:=h') (p:=p') hd' (hp' y (by rw [e'];simp))
   try dsimp only at h2
   try dsimp only at h1 h2
   by_cases hc:colM a b c x=colM a' b' c' y
   ·obtain ⟨K,hK⟩:=ih suf' (pre ++ [x]) (pre' ++ [y]) (by simp [e]) (by simp [e']) (by simp [hpp])
    try dsimp only at hK
    try dsimp only at hK
    refine ⟨K+K1+K2+1,fun k hk=>?_⟩
    try dsimp only
    obtain ⟨m,rfl⟩:∃ m,k=m+1:=⟨k - 1,by omega⟩
    have hm:=hK m (by omega)
    rw [List.length_append,List.length_singleton,show ((pre.length+1:Nat):Int)=(pre.length:Int)+1 by omega] at hm
    try dsimp only
    rw [spec_ImageLike.l0,if_pos (by omega),if_pos (by omega),hx,h1 m (by omega),Option.bind_some,if_pos (by omega),hy,h2 m (by omega),Option.bind_some,if_pos hc,w64 (by omega),hm]
    simp [hc]
   ·refine ⟨K1+K2+1,fun k hk=>?_⟩
    try dsimp only
    obtain ⟨m,rfl⟩:∃ m,k=m+1:=⟨k - 1,by omega⟩
    try dsimp only
    rw [spec_ImageLike.l0,if_pos (by omega),if_pos (by omega),hx,h1 m (by omega),Option.bind_some,if_pos (by omega),hy,h2 m (by omega),Option.bind_some,if_neg hc]
    simp [hc]
theorem implLike_l0_ev {a b wd h:Int} {c p:List Int} {a' b' wd' h':Int} {c' p':List Int} (hd:depP a b) (hd':depP a' b') (hp:∀ x ∈ p,ptP a b c x) (hp':∀ x ∈ p',ptP a' b' c' x) (hl:p.length=p'.length) (hn:p.length≤400):∀ (suf suf' pre pre':List Int),p=pre ++ suf → p'=pre' ++ suf' → pre.length=pre'.length → Ev (fun k=>impl_ImageLike.l0 k p (p.length:Int) (pre.length:Int) a b wd h c p a' b' wd' h' c' p') (decide (suf.map (colM a b c)=suf'.map (colM a' b' c'))):=by
 intro suf
 induction suf with
 | nil =>
  intro suf' pre pre' e e' hpp
  have hs:suf'=[]:=List.eq_nil_of_length_eq_zero (by have h1:=congrArg List.length e;have h2:=congrArg List.length e';simp at h1 h2;omega)
  subst hs
  refine ⟨1,fun k hk=>?_⟩
  try dsimp only
  obtain ⟨m,rfl⟩:∃ m,k=m+1:=⟨k - 1,by omega⟩
  try dsimp only
  rw [impl_ImageLike.l0,if_neg (by rw [e];simp)];simp
 | cons x suf ih =>
  intro suf' pre pre' e e' hpp
  cases suf' with
  | nil=>have h1:=congrArg List.length e;have h2:=congrArg List.length e';simp at h1 h2;omega
  | cons y suf' =>
   have hll:p.length=pre.length+suf.length+1:=by rw [e];simp;omega
   have hx:rd p (pre.length:Int)=x:=by rw [e];exact rd_at _ _ _ rfl
   have hy:rd p' (pre.length:Int)=y:=by rw [e'];exact rd_at _ _ _ (by omega)
   have h1:=implColor_f (wd:=wd) (h:=h) (p:=p) hd (hp x (by rw [e];simp))
   have h2:=implColor_f (wd:=wd') (h:=h') (p:=p') hd' (hp' y (by rw [e'];simp))
   by_cases hc:colM a b c x=colM a' b' c' y
   ·obtain ⟨K,hK⟩:=ih suf' (pre ++ [x]) (pre' ++ [y]) (by simp [e]) (by simp [e']) (by simp [hpp])
    try dsimp only at hK
    try dsimp only at hK
    refine ⟨K+1,fun k hk=>?_⟩
    try dsimp only
    obtain ⟨m,rfl⟩:∃ m,k=m+1:=⟨k - 1,by omega⟩
    have hm:=hK m (by omega)
    rw [List.length_append,List.length_singleton,show ((pre.length+1:Nat):Int)=(pre.length:Int)+1 by omega] at hm
    try dsimp only
    rw [impl_ImageLike.l0,if_pos (by omega),if_pos (by omega),if_pos (by omega),hx,h1,Option.bind_some,if_pos (by omega),hy,h2,Option.bind_some,if_pos hc,w64 (by omega),hm]
    simp [hc]
   ·refine ⟨1,fun k hk=>?_⟩
    try dsimp only
    obtain ⟨m,rfl⟩:∃ m,k=m+1:=⟨k - 1,by omega⟩
    try dsimp only
    rw [impl_ImageLike.l0,if_pos (by omega),if_pos (by omega),if_pos (by omega),hx,h1,Option.bind_some,if_pos (by omega),hy,h2,Option.bind_some,if_neg hc]
    simp [hc]
theorem imgP_len {a b wd h:Int} {c p:List Int} (hi:imgP a b wd h c p):(p.length:Int)=wd * h∧p.length≤400:=by
 obtain ⟨-,hw,hh,hl,-⟩:=hi
 have:=mul20 hw hh
 omega
theorem specLike_ev (a b wd h:Int) (c p:List Int) (a' b' wd' h':Int) (c' p':List Int) (hc:c.length≤1048576) (hp:p.length≤1048576) (hc':c'.length≤1048576) (hp':p'.length≤1048576):Ev (fun k=>spec_ImageLike.f k a b wd h c p a' b' wd' h' c' p') (decide (likeP a b wd h c p a' b' wd' h' c' p')):=by
 obtain ⟨K1,h1⟩:=spec_ImageOk_ev a b wd h c p hc hp
 try dsimp only at h1
 obtain ⟨K2,h2⟩:=spec_ImageOk_ev a' b' wd' h' c' p' hc' hp'
 try dsimp only at h2
 try dsimp only at h1 h2
 have hF:∀ k,spec_ImageLike.j0 (k+1) true a b wd h c p a' b' wd' h' c' p'=some false:=fun k=>by rw [spec_ImageLike.j0,if_pos rfl]
 by_cases hi:imgP a b wd h c p
 ·by_cases hi':imgP a' b' wd' h' c' p'
  ·by_cases hw:wd=wd'
   ·by_cases hh:h=h'
    ·have l1:=imgP_len hi
     have l2:=imgP_len hi'
     subst hw;subst hh
     obtain ⟨K3,h3⟩:=specLike_l0_ev (wd:=wd) (h:=h) (wd':=wd) (h':=h) hi.1 hi'.1 (fun x hx=>imgP_pt hi hx) (fun x hx=>imgP_pt hi' hx) (by omega) l1.2 p p' [] [] rfl rfl rfl
     try dsimp only at h3
     try dsimp only at h3
     refine ⟨K1+K2+K3+1,fun k hk=>?_⟩
     try dsimp only
     obtain ⟨m,rfl⟩:∃ m,k=m+1:=⟨k - 1,by omega⟩
     have h3':=h3 m (by omega)
     try dsimp only
     unfold spec_ImageLike.f
     rw [h1 _ (by omega),Option.bind_some,h2 _ (by omega),Option.bind_some]
     unfold imgM
     rw [if_pos (decide_eq_true hi),if_pos (decide_eq_true hi'),if_pos rfl,bne_self_eq_false,spec_ImageLike.j0,if_neg (by decide)]
     rw [show (([]:List Int).length:Int)=0 from rfl] at h3'
     rw [h3']
     congr 1
     rw [Bool.eq_iff_iff,decide_eq_true_iff,decide_eq_true_iff]
     exact ⟨fun e=>⟨hi,hi',rfl,rfl,e⟩,fun e=>e.2.2.2.2⟩
    ·refine ⟨K1+K2+1,fun k hk=>?_⟩
     try dsimp only
     obtain ⟨m,rfl⟩:∃ m,k=m+1:=⟨k - 1,by omega⟩
     try dsimp only
     unfold spec_ImageLike.f
     rw [h1 _ (by omega),Option.bind_some,h2 _ (by omega),Option.bind_some]
     unfold imgM
     rw [if_pos (decide_eq_true hi),if_pos (decide_eq_true hi'),if_pos hw,bne_iff_ne.2 hh,hF]
     congr 1;symm;rw [decide_eq_false_iff_not];exact fun e=>hh e.2.2.2.1
   ·refine ⟨K1+K2+1,fun k hk=>?_⟩
    try dsimp only
    obtain ⟨m,rfl⟩:∃ m,k=m+1:=⟨k - 1,by omega⟩
    try dsimp only
    unfold spec_ImageLike.f
    rw [h1 _ (by omega),Option.bind_some,h2 _ (by omega),Option.bind_some]
    unfold imgM
    rw [if_pos (decide_eq_true hi),if_pos (decide_eq_true hi'),if_neg hw,hF]
    congr 1;symm;rw [decide_eq_false_iff_not];exact fun e=>hw e.2.2.1
  ·refine ⟨K1+K2+1,fun k hk=>?_⟩
   try dsimp only
   obtain ⟨m,rfl⟩:∃ m,k=m+1:=⟨k - 1,by omega⟩
   try dsimp only
   unfold spec_ImageLike.f
   rw [h1 _ (by omega),Option.bind_some,h2 _ (by omega),Option.bind_some]
   unfold imgM
   rw [if_pos (decide_eq_true hi),if_neg (by simpa using hi'),hF]
   congr 1;symm;rw [decide_eq_false_iff_not];exact fun e=>hi' e.2.1
 ·refine ⟨K1+K2+1,fun k hk=>?_⟩
  try dsimp only
  obtain ⟨m,rfl⟩:∃ m,k=m+1:=⟨k - 1,by omega⟩
  try dsimp only
  unfold spec_ImageLike.f
  rw [h1 _ (by omega),Option.bind_some]
  unfold imgM
  rw [if_neg (by simpa using hi),hF]
  congr 1;symm;rw [decide_eq_false_iff_not];exact fun e=>hi e.1
theorem implLike_ev (a b wd h:Int) (c p:List Int) (a' b' wd' h':Int) (c' p':List Int) (hc:c.length≤1048576) (hp:p.length≤1048576) (hc':c'.length≤1048576) (hp':p'.length≤1048576):Ev (fun k=>impl_ImageLike.f k a b wd h c p a' b' wd' h' c' p') (decide (likeP a b wd h c p a' b' wd' h' c' p')):=by
 have h1:=fun k=>impl_ImageOk_f k a b wd h c p hc hp
 have h2:=fun k=>impl_ImageOk_f k a' b' wd' h' c' p' hc' hp'
 have hF:∀ k,impl_ImageLike.j0 (k+1) true a b wd h c p a' b' wd' h' c' p'=some false:=fun k=>by rw [impl_ImageLike.j0,if_pos rfl]
 by_cases hi:imgP a b wd h c p
 ·by_cases hi':imgP a' b' wd' h' c' p'
  ·by_cases hw:wd=wd'
   ·by_cases hh:h=h'
    ·have l1:=imgP_len hi
     have l2:=imgP_len hi'
     subst hw;subst hh
     obtain ⟨K3,h3⟩:=implLike_l0_ev (wd:=wd) (h:=h) (wd':=wd) (h':=h) hi.1 hi'.1 (fun x hx=>imgP_pt hi hx) (fun x hx=>imgP_pt hi' hx) (by omega) l1.2 p p' [] [] rfl rfl rfl
     try dsimp only at h3
     try dsimp only at h3
     refine ⟨K3+1,fun k hk=>?_⟩
     try dsimp only
     obtain ⟨m,rfl⟩:∃ m,k=m+1:=⟨k - 1,by omega⟩
     have h3':=h3 m (by omega)
     try dsimp only
     unfold impl_ImageLike.f
     rw [h1,Option.bind_some,h2,Option.bind_some]
     unfold imgM
     rw [if_pos (decide_eq_true hi),if_pos (decide_eq_true hi'),if_pos rfl,bne_self_eq_false,impl_ImageLike.j0,if_neg (by decide)]
     rw [show (([]:List Int).length:Int)=0 from rfl] at h3'
     rw [h3']
     congr 1
     rw [Bool.eq_iff_iff,decide_eq_true_iff,decide_eq_true_iff]
     exact ⟨fun e=>⟨hi,hi',rfl,rfl,e⟩,fun e=>e.2.2.2.2⟩
    ·refine ⟨1,fun k hk=>?_⟩
     try dsimp only
     obtain ⟨m,rfl⟩:∃ m,k=m+1:=⟨k - 1,by omega⟩
     try dsimp only
     unfold impl_ImageLike.f
     rw [h1,Option.bind_some,h2,Option.bind_some]
     unfold imgM
     rw [if_pos (decide_eq_true hi),if_pos (decide_eq_true hi'),if_pos hw,bne_iff_ne.2 hh,hF]
     congr 1;symm;rw [decide_eq_false_iff_not];exact fun e=>hh e.2.2.2.1
   ·refine ⟨1,fun k hk=>?_⟩
    try dsimp only
    obtain ⟨m,rfl⟩:∃ m,k=m+1:=⟨k - 1,by omega⟩
    try dsimp only
    unfold impl_ImageLike.f
    rw [h1,Option.bind_some,h2,Option.bind_some]
    unfold imgM
    rw [if_pos (decide_eq_true hi),if_pos (decide_eq_true hi'),if_neg hw,hF]
    congr 1;symm;rw [decide_eq_false_iff_not];exact fun e=>hw e.2.2.1
  ·refine ⟨1,fun k hk=>?_⟩
   try dsimp only
   obtain ⟨m,rfl⟩:∃ m,k=m+1:=⟨k - 1,by omega⟩
   try dsimp only
   unfold impl_ImageLike.f
   rw [h1,Option.bind_some,h2,Option.bind_some]
   unfold imgM
   rw [if_pos (decide_eq_true hi),if_neg (by simpa using hi'),hF]
   congr 1;symm;rw [decide_eq_false_iff_not];exact fun e=>hi' e.2.1
 ·refine ⟨1,fun k hk=>?_⟩
  try dsimp only
  obtain ⟨m,rfl⟩:∃ m,k=m+1:=⟨k - 1,by omega⟩
  try dsimp only
  unfold impl_ImageLike.f
  rw [h1,Option.bind_some]
  unfold imgM
  rw [if_neg (by simpa using hi),hF]
  congr 1;symm;rw [decide_eq_false_iff_not];exact fun e=>hi e.1

theorem likeJ0 (k:Nat) (a dd w h:Int) (c p:List Int) (hc:c.length≤1000) (hp:p.length≤1000):spec_DrawImageLike.j0 (k+1) a dd w h c p=some (a,dd,w,h,c,p,a,dd,w,h,c,p):=by
 rw [spec_DrawImageLike.j0,l14Copy_f _ _ _ _ _ _ (by omega) (by omega),Option.bind_some]
theorem drawImageLike_ev {b:List Int} (hb:∀ x ∈ b,(Lit.int .u8 x).wf=true):∃ (a dd w h:Int) (c p:List Int) (a' dd' w' h':Int) (c' p':List Int),(c.length≤1000∧p.length≤1000∧c'.length≤1000∧p'.length≤1000)∧Ev (fun k=>spec_DrawImageLike.f k b) (a,dd,w,h,c,p,a',dd',w',h',c',p'):=by
 have hcd:=code_open hb
 obtain ⟨⟨a,dd,w,h,c,pt,q⟩,hg,K1,h1⟩:=l14Any_ev hcd
 obtain ⟨g1,g2,g3⟩:=hg
 try dsimp only at g1 g2 g3 h1
 obtain ⟨t,ht,K2,h2⟩:=pick_ev hcd (p:=q) (n:=5) (by omega) (by omega)
 try dsimp only at h2
 try dsimp only at h2
 by_cases e0:t=0
 ·obtain ⟨⟨a',dd',w',h',c',pt',q'⟩,hg',K3,h3⟩:=l14ImageB_ev hcd (q:=q+1) (by omega)
  obtain ⟨g1',g2',g3'⟩:=hg'
  try dsimp only at g1' g2' g3' h3
  refine ⟨a,dd,w,h,c,pt,a',dd',w',h',c',pt',⟨g1,g2,by omega,by omega⟩,K1+K2+K3,fun k hk=>?_⟩
  try dsimp only
  try dsimp only
  unfold spec_DrawImageLike.f
  rw [l1Open_f,Option.bind_some]
  try dsimp only
  rw [h1 k (by omega),Option.bind_some]
  try dsimp only
  rw [h2 k (by omega),Option.bind_some]
  try dsimp only
  rw [if_pos e0,h3 k (by omega),Option.bind_some]
 by_cases e1:t=1
 ·obtain ⟨K3,h3⟩:=specRgb_ev a dd w h c pt (by omega) (by omega)
  try dsimp only at h3
  have hs:=rgbM_small a dd w h c pt
  try dsimp only at h3
  generalize rgbM a dd w h c pt=R at h3 hs
  obtain ⟨r0,r1,r2,r3,r4,r5,r6⟩:=R
  try dsimp only at hs
  cases r6 with
  | true =>
   refine ⟨a,dd,w,h,c,pt,r0,r1,r2,r3,r4,r5,⟨g1,g2,by omega,by omega⟩,K1+K2+K3,fun k hk=>?_⟩
   try dsimp only
   try dsimp only
   unfold spec_DrawImageLike.f
   rw [l1Open_f,Option.bind_some]
   try dsimp only
   rw [h1 k (by omega),Option.bind_some]
   try dsimp only
   rw [h2 k (by omega),Option.bind_some]
   try dsimp only
   rw [if_neg e0,if_pos e1,h3 k (by omega),Option.bind_some]
   try dsimp only
   rw [if_pos rfl]
  | false =>
   refine ⟨a,dd,w,h,c,pt,a,dd,w,h,c,pt,⟨g1,g2,g1,g2⟩,K1+K2+K3+1,fun k hk=>?_⟩
   try dsimp only
   obtain ⟨m,rfl⟩:∃ m,k=m+1:=⟨k - 1,by omega⟩
   try dsimp only
   unfold spec_DrawImageLike.f
   rw [l1Open_f,Option.bind_some]
   try dsimp only
   rw [h1 _ (by omega),Option.bind_some]
   try dsimp only
   rw [h2 _ (by omega),Option.bind_some]
   try dsimp only
   rw [if_neg e0,if_pos e1,h3 _ (by omega),Option.bind_some]
   try dsimp only
   rw [if_neg (by decide)]
   exact likeJ0 m a dd w h c pt g1 g2
 by_cases e2:t=2
 ·obtain ⟨K3,h3⟩:=specPal_ev a dd w h c pt (by omega) (by omega)
  try dsimp only at h3
  have hs:=palM_small a dd w h c pt
  try dsimp only at h3
  generalize palM a dd w h c pt=R at h3 hs
  obtain ⟨r0,r1,r2,r3,r4,r5,r6⟩:=R
  try dsimp only at hs
  cases r6 with
  | true =>
   refine ⟨r0,r1,r2,r3,r4,r5,a,dd,w,h,c,pt,⟨by omega,by omega,g1,g2⟩,K1+K2+K3,fun k hk=>?_⟩
   try dsimp only
   try dsimp only
   unfold spec_DrawImageLike.f
   rw [l1Open_f,Option.bind_some]
   try dsimp only
   rw [h1 k (by omega),Option.bind_some]
   try dsimp only
   rw [h2 k (by omega),Option.bind_some]
   try dsimp only
   rw [if_neg e0,if_neg e1,if_pos e2,h3 k (by omega),Option.bind_some]
   try dsimp only
   rw [if_pos rfl]
  | false =>
   refine ⟨a,dd,w,h,c,pt,a,dd,w,h,c,pt,⟨g1,g2,g1,g2⟩,K1+K2+K3+1,fun k hk=>?_⟩
   try dsimp only
   obtain ⟨m,rfl⟩:∃ m,k=m+1:=⟨k - 1,by omega⟩
   try dsimp only
   unfold spec_DrawImageLike.f
   rw [l1Open_f,Option.bind_some]
   try dsimp only
   rw [h1 _ (by omega),Option.bind_some]
   try dsimp only
   rw [h2 _ (by omega),Option.bind_some]
   try dsimp only
   rw [if_neg e0,if_neg e1,if_pos e2,h3 _ (by omega),Option.bind_some]
   try dsimp only
   rw [if_neg (by decide)]
   exact likeJ0 m a dd w h c pt g1 g2
 by_cases e3:t=3
 ·obtain ⟨K3,h3⟩:=specFlip_ev a dd w h c pt (by omega) (by omega)
  try dsimp only at h3
  have hs:(flipM a dd w h c pt).2.2.2.2.1.length≤1000∧(flipM a dd w h c pt).2.2.2.2.2.length≤1000:=by
   by_cases hi:imgP a dd w h c pt
   ·rw [flipM_of hi]
    have:=(flipM_small a dd w h c pt (by omega)).2
    rw [flipM_of hi] at this
    try dsimp only at this ⊢;omega
   ·rw [flipM_not hi];simp
  try dsimp only at h3
  generalize flipM a dd w h c pt=R at h3 hs
  obtain ⟨r0,r1,r2,r3,r4,r5⟩:=R
  try dsimp only at hs
  refine ⟨a,dd,w,h,c,pt,r0,r1,r2,r3,r4,r5,⟨g1,g2,hs.1,hs.2⟩,K1+K2+K3,fun k hk=>?_⟩
  try dsimp only
  try dsimp only
  unfold spec_DrawImageLike.f
  rw [l1Open_f,Option.bind_some]
  try dsimp only
  rw [h1 k (by omega),Option.bind_some]
  try dsimp only
  rw [h2 k (by omega),Option.bind_some]
  try dsimp only
  rw [if_neg e0,if_neg e1,if_neg e2,if_pos e3,h3 k (by omega),Option.bind_some]
 ·refine ⟨a,dd,w,h,c,pt,a,dd,w,h,c,pt,⟨g1,g2,g1,g2⟩,K1+K2+1,fun k hk=>?_⟩
  try dsimp only
  obtain ⟨m,rfl⟩:∃ m,k=m+1:=⟨k - 1,by omega⟩
  try dsimp only
  unfold spec_DrawImageLike.f
  rw [l1Open_f,Option.bind_some]
  try dsimp only
  rw [h1 _ (by omega),Option.bind_some]
  try dsimp only
  rw [h2 _ (by omega),Option.bind_some]
  try dsimp only
  rw [if_neg e0,if_neg e1,if_neg e2,if_neg e3]
  exact likeJ0 m a dd w h c pt g1 g2
theorem wiIntsG_l0_ev (a b:List Int) (hl:a.length≤1048576) (hab:a.length=b.length):∀ (sa sb pa:List Int),a=pa ++ sa → b=pa ++ sb → Ev (fun k=>laws_wiInts.l0 k a b (pa.length:Int)) (decide (sa=sb)):=by
 intro sa
 induction sa with
 | nil =>
  intro sb pa ha hb
  have hsb:sb=[]:=by
   have h1:=congrArg List.length ha
   have h2:=congrArg List.length hb
   rw [List.length_append] at h1 h2
   exact List.eq_nil_of_length_eq_zero (by simp at h1;omega)
  subst hsb
  refine ⟨1,fun k hk=>?_⟩
  try dsimp only
  obtain ⟨m,rfl⟩:∃ m,k=m+1:=⟨k - 1,by omega⟩
  try dsimp only
  rw [laws_wiInts.l0,if_neg (by rw [ha];simp)];simp
 | cons x sa ih =>
  intro sb pa ha hb
  have h1:=congrArg List.length ha
  have h2:=congrArg List.length hb
  rw [List.length_append,List.length_cons] at h1
  rw [List.length_append] at h2
  cases sb with
  | nil=>simp at h2;omega
  | cons y sb =>
   have hx:rd a (pa.length:Int)=x:=by rw [ha];exact rd_at _ _ _ rfl
   have hy:rd b (pa.length:Int)=y:=by rw [hb];exact rd_at _ _ _ rfl
   by_cases e:x=y
   ·subst e
    obtain ⟨K,hK⟩:=ih sb (pa ++ [x]) (by simp [ha]) (by simp [hb])
    try dsimp only at hK
    refine ⟨K+1,fun k hk=>?_⟩
    try dsimp only
    obtain ⟨m,rfl⟩:∃ m,k=m+1:=⟨k - 1,by omega⟩
    have hm:=hK m (by omega)
    try dsimp only at hm ⊢
    rw [List.length_append,List.length_singleton,show ((pa.length+1:Nat):Int)=(pa.length:Int)+1 by omega] at hm
    rw [laws_wiInts.l0,if_pos (by omega),if_pos (by omega),if_pos (by omega),hx,hy,if_pos rfl,w64 (by omega),hm]
    simp
   ·refine ⟨1,fun k hk=>?_⟩
    try dsimp only
    obtain ⟨m,rfl⟩:∃ m,k=m+1:=⟨k - 1,by omega⟩
    try dsimp only
    rw [laws_wiInts.l0,if_pos (by omega),if_pos (by omega),if_pos (by omega),hx,hy,if_neg e,decide_eq_false (fun h=>e (List.cons.inj h).1)]
theorem wiIntsG_ev (a b:List Int) (hl:a.length≤1048576):Ev (fun k=>laws_wiInts.f k a b) (decide (a=b)):=by
 by_cases h:a.length=b.length
 ·obtain ⟨K,hK⟩:=wiIntsG_l0_ev a b hl h a b [] rfl rfl
  try dsimp only at hK
  refine ⟨K,fun k hk=>?_⟩
  try dsimp only
  try dsimp only
  unfold laws_wiInts.f
  rw [if_pos (by omega)]
  exact hK k hk
 ·refine ⟨0,fun k hk=>?_⟩
  try dsimp only
  try dsimp only
  unfold laws_wiInts.f
  rw [if_neg (by omega),decide_eq_false (fun e=>h (by rw [e]))]
theorem wiImageG_ev (wd h wd' h':Int) (L L':List Int) (hl:L.length≤1048576):Ev (fun k=>laws_wiImage.f k 2 24 wd h [] L 2 24 wd' h' [] L') (decide (wd=wd'∧h=h'∧L=L')):=by
 obtain ⟨K1,h1⟩:=wiIntsG_ev [] [] (by simp)
 try dsimp only at h1
 obtain ⟨K2,h2⟩:=wiIntsG_ev L L' hl
 try dsimp only at h2
 try dsimp only at h1 h2
 refine ⟨K1+K2,fun k hk=>?_⟩
 try dsimp only
 try dsimp only
 unfold laws_wiImage.f
 rw [if_pos rfl,if_pos rfl]
 by_cases e1:wd=wd'
 ·rw [if_pos e1]
  by_cases e2:h=h'
  ·rw [if_pos e2,h1 k (by omega),Option.bind_some,if_pos (by simp),h2 k (by omega),Option.bind_some]
   simp [e1,e2]
  ·rw [if_neg e2,decide_eq_false (fun h=>e2 h.2.1)]
 ·rw [if_neg e1,decide_eq_false (fun h=>e1 h.1)]
theorem like_symm {k d wd h:Int} {c p:List Int} {k' d' wd' h':Int} {c' p':List Int}:likeP k d wd h c p k' d' wd' h' c' p' → likeP k' d' wd' h' c' p' k d wd h c p :=
 fun ⟨a1,a2,a3,a4,a5⟩=>⟨a2,a1,a3.symm,a4.symm,a5.symm⟩
theorem like_comm {k d wd h:Int} {c p:List Int} {k' d' wd' h':Int} {c' p':List Int}:decide (likeP k' d' wd' h' c' p' k d wd h c p)=decide (likeP k d wd h c p k' d' wd' h' c' p'):=decide_eq_decide.2 ⟨like_symm,like_symm⟩
theorem like_self {k d wd h:Int} {c p:List Int}:decide (likeP k d wd h c p k d wd h c p)=decide (imgP k d wd h c p):=decide_eq_decide.2 ⟨fun h=>h.1,fun h=>⟨h,h,rfl,rfl,rfl⟩⟩
theorem map_gen (f:Int → Int) (g:Nat → Nat → Int) (w h:Nat):(genL g w h).map f=genL (fun x y=>f (g x y)) w h:=by
 unfold genL rowL
 rw [List.map_flatMap]
 refine congrArg (fun z=>List.flatMap z (List.range h)) ?_
 funext y
 rw [List.map_map];rfl
theorem map_rd {p p':List Int} {f f':Int → Int} (hm:p.map f=p'.map f') {i:Int} (h0:0≤i) (h1:i < p.length):f (rd p i)=f' (rd p' i):=by
 have hl:p.length=p'.length:=by have:=congrArg List.length hm;simpa using this
 have h2:=congrArg (fun z=>z[i.toNat]?) hm
 try dsimp only at h2
 rw [List.getElem?_map,List.getElem?_map,List.getElem?_eq_getElem (by omega),List.getElem?_eq_getElem (by omega)] at h2
 unfold rd
 rw [List.getD_eq_getElem?_getD,List.getD_eq_getElem?_getD,List.getElem?_eq_getElem (by omega),List.getElem?_eq_getElem (by omega)]
 simpa using h2
theorem like_flip {k d wd h:Int} {c p:List Int} {k' d' wd' h':Int} {c' p':List Int} (hL:likeP k d wd h c p k' d' wd' h' c' p'):likeP k d wd h c (flipL wd h p) k' d' wd' h' c' (flipL wd' h' p'):=by
 obtain ⟨a1,a2,rfl,rfl,a5⟩:=hL
 refine ⟨flip_ok a1,flip_ok a2,rfl,rfl,?_⟩
 obtain ⟨W,H,rfl,rfl,hW,hH,hl,-⟩:=imgP_nat a1
 unfold flipL
 rw [Int.toNat_natCast,Int.toNat_natCast,map_gen,map_gen]
 refine genL_congr fun x y hx hy=>?_
 have h3:=place_lt (wd:=(W:Int)) (h:=(H:Int)) (x:=(x:Int)) (y:=(H:Int) - 1 - (y:Int)) (by omega) (by omega) (by omega) (by omega)
 have e:(p.length:Int)=(W:Int) * (H:Int):=by rw [hl,Nat.mul_comm];simp
 exact map_rd a5 (by omega) (by omega)
theorem like_rgb {k d wd h:Int} {c p:List Int} {k' d' wd' h':Int} {c' p':List Int} (hi:imgP k d wd h c p) (hi':imgP k' d' wd' h' c' p') (hd:denseP k d c p) (hd':denseP k' d' c' p'):decide (likeP k d wd h c p k' d' wd' h' c' p')=decide (wd=wd'∧h=h'∧rgbL k d c p=rgbL k' d' c' p'):=by
 have e1:p.map (colM k d c)=(rgbL k d c p).map fun v=>256 * v+255:=by
  unfold rgbL
  rw [List.map_map]
  refine List.map_congr_left fun x hx=>?_
  have:=hd x hx
  show colM k d c x=256 * (colM k d c x / 256)+255
  omega
 have e2:p'.map (colM k' d' c')=(rgbL k' d' c' p').map fun v=>256 * v+255:=by
  unfold rgbL
  rw [List.map_map]
  refine List.map_congr_left fun x hx=>?_
  have:=hd' x hx
  show colM k' d' c' x=256 * (colM k' d' c' x / 256)+255
  omega
 refine decide_eq_decide.2 ⟨fun ⟨_,_,a3,a4,a5⟩=>⟨a3,a4,?_⟩,fun ⟨a3,a4,a5⟩=>⟨hi,hi',a3,a4,by rw [e1,e2,a5]⟩⟩
 have:=congrArg (List.map fun v=>v / 256) a5
 rw [List.map_map,List.map_map] at this
 exact this
theorem FnImageLike:laws_FnImageLike.Pure:=by
 intro l hl _ hw
 by_cases hz:(l.length:Int) > 1048576
 ·exact ⟨0,by unfold laws_FnImageLike.f;rw [if_pos hz]⟩
 obtain ⟨a,dd,w,h,c,p,a',dd',w',h',c',p',⟨hc,hp,hc',hp'⟩,K1,h1⟩:=drawImageLike_ev hw
 obtain ⟨K2,h2⟩:=implLike_ev a dd w h c p a' dd' w' h' c' p' (by omega) (by omega) (by omega) (by omega)
 try dsimp only at h2
 obtain ⟨K3,h3⟩:=specLike_ev a dd w h c p a' dd' w' h' c' p' (by omega) (by omega) (by omega) (by omega)
 try dsimp only at h3
 obtain ⟨K4,h4⟩:=implLike_ev a' dd' w' h' c' p' a dd w h c p (by omega) (by omega) (by omega) (by omega)
 try dsimp only at h4
 obtain ⟨K5,h5⟩:=spec_ImageOk_ev a dd w h c p (by omega) (by omega)
 try dsimp only at h5
 obtain ⟨K6,h6⟩:=implRgb_ev a dd w h c p (by omega) (by omega)
 try dsimp only at h6
 obtain ⟨K7,h7⟩:=implRgb_ev a' dd' w' h' c' p' (by omega) (by omega)
 try dsimp only at h7
 obtain ⟨K8,h8⟩:=implLike_ev a dd w h c p a dd w h c p (by omega) (by omega) (by omega) (by omega)
 try dsimp only at h8
 obtain ⟨K9,h9⟩:=implFlip_ev a dd w h c p (by omega) (by omega)
 try dsimp only at h9
 obtain ⟨K10,h10⟩:=implFlip_ev a' dd' w' h' c' p' (by omega) (by omega)
 try dsimp only at h10
 obtain ⟨K12,h12⟩:=wiImageG_ev w h w' h' (rgbL a dd c p) (rgbL a' dd' c' p') (by unfold rgbL;rw [List.length_map];omega)
 try dsimp only at h12
 try dsimp only at h1 h2 h3 h4 h5 h6 h7 h8 h9 h10 h12
 have tail:∀ m,K12≤m → (if (rgbM a dd w h c p).2.2.2.2.2.2=true then (if (rgbM a' dd' w' h' c' p').2.2.2.2.2.2=true then ((laws_wiImage.f m (rgbM a dd w h c p).1 (rgbM a dd w h c p).2.1 (rgbM a dd w h c p).2.2.1 (rgbM a dd w h c p).2.2.2.1 (rgbM a dd w h c p).2.2.2.2.1 (rgbM a dd w h c p).2.2.2.2.2.1 (rgbM a' dd' w' h' c' p').1 (rgbM a' dd' w' h' c' p').2.1 (rgbM a' dd' w' h' c' p').2.2.1 (rgbM a' dd' w' h' c' p').2.2.2.1 (rgbM a' dd' w' h' c' p').2.2.2.2.1 (rgbM a' dd' w' h' c' p').2.2.2.2.2.1).bind fun t=>some (decide (likeP a dd w h c p a' dd' w' h' c' p') == t)) else some true) else some true)=some true:=by
  intro m hm
  by_cases e1:imgP a dd w h c p∧denseP a dd c p
  ·have r1:rgbM a dd w h c p=(2,24,w,h,[],rgbL a dd c p,true):=by unfold rgbM;exact if_pos e1
   by_cases e2:imgP a' dd' w' h' c' p'∧denseP a' dd' c' p'
   ·have r2:rgbM a' dd' w' h' c' p'=(2,24,w',h',[],rgbL a' dd' c' p',true):=by unfold rgbM;exact if_pos e2
    rw [r1,r2]
    try dsimp only
    rw [if_pos rfl,if_pos rfl,h12 m hm,Option.bind_some,like_rgb e1.1 e2.1 e1.2 e2.2,beq_self_eq_true]
   ·have r2:rgbM a' dd' w' h' c' p'=(0,0,0,0,[],[],false):=by unfold rgbM;exact if_neg e2
    rw [r1,r2]
    try dsimp only
    rw [if_pos rfl,if_neg (by decide)]
  ·have r1:rgbM a dd w h c p=(0,0,0,0,[],[],false):=by unfold rgbM;exact if_neg e1
   rw [r1]
   try dsimp only
   rw [if_neg (by decide)]
 have hx:∀ b:Bool,(b != b)=false:=by decide
 have start:∀ m,K1+K2+K3+K4+K5+K6+K7+K8≤m → laws_FnImageLike.f (m+2) l=(if decide (likeP a dd w h c p a' dd' w' h' c' p')=true then ((impl_ImageFlip.f (m+1) a dd w h c p).bind fun bt538=>((impl_ImageFlip.f (m+1) a' dd' w' h' c' p').bind fun bt548=>((impl_ImageLike.f (m+1) bt538.1 bt538.2.1 bt538.2.2.1 bt538.2.2.2.1 bt538.2.2.2.2.1 bt538.2.2.2.2.2 bt548.1 bt548.2.1 bt548.2.2.1 bt548.2.2.2.1 bt548.2.2.2.2.1 bt548.2.2.2.2.2).bind fun t558=>(if t558=true then (if (rgbM a dd w h c p).2.2.2.2.2.2=true then (if (rgbM a' dd' w' h' c' p').2.2.2.2.2.2=true then ((laws_wiImage.f (m+1) (rgbM a dd w h c p).1 (rgbM a dd w h c p).2.1 (rgbM a dd w h c p).2.2.1 (rgbM a dd w h c p).2.2.2.1 (rgbM a dd w h c p).2.2.2.2.1 (rgbM a dd w h c p).2.2.2.2.2.1 (rgbM a' dd' w' h' c' p').1 (rgbM a' dd' w' h' c' p').2.1 (rgbM a' dd' w' h' c' p').2.2.1 (rgbM a' dd' w' h' c' p').2.2.2.1 (rgbM a' dd' w' h' c' p').2.2.2.2.1 (rgbM a' dd' w' h' c' p').2.2.2.2.2.1).bind fun t559=>(some (decide (likeP a dd w h c p a' dd' w' h' c' p') == t559))) else (some true)) else (some true)) else (some false))))) else (if (rgbM a dd w h c p).2.2.2.2.2.2=true then (if (rgbM a' dd' w' h' c' p').2.2.2.2.2.2=true then ((laws_wiImage.f (m+1) (rgbM a dd w h c p).1 (rgbM a dd w h c p).2.1 (rgbM a dd w h c p).2.2.1 (rgbM a dd w h c p).2.2.2.1 (rgbM a dd w h c p).2.2.2.2.1 (rgbM a dd w h c p).2.2.2.2.2.1 (rgbM a' dd' w' h' c' p').1 (rgbM a' dd' w' h' c' p').2.1 (rgbM a' dd' w' h' c' p').2.2.1 (rgbM a' dd' w' h' c' p').2.2.2.1 (rgbM a' dd' w' h' c' p').2.2.2.2.1 (rgbM a' dd' w' h' c' p').2.2.2.2.2.1).bind fun t560=>(some (decide (likeP a dd w h c p a' dd' w' h' c' p') == t560))) else (some true)) else (some true))):=by
  intro m hm
  unfold laws_FnImageLike.f
  rw [if_neg hz,h1 _ (by omega),Option.bind_some]
  try dsimp only
  rw [h2 _ (by omega),Option.bind_some,h3 _ (by omega),Option.bind_some,hx,if_neg (by decide),h4 _ (by omega),Option.bind_some,like_comm,hx,if_neg (by decide),impl_ImageOk_f (m+1) _ _ _ _ _ _ (by omega) (by omega),Option.bind_some,h5 _ (by omega),Option.bind_some,hx,laws_FnImageLike.j0,if_neg (by decide),h6 _ (by omega),Option.bind_some,h7 _ (by omega),Option.bind_some,h8 _ (by omega),Option.bind_some,h5 _ (by omega),Option.bind_some,like_self]
  unfold imgM
  rw [beq_self_eq_true,if_pos rfl]
 by_cases hL:likeP a dd w h c p a' dd' w' h' c' p'
 ·have f1:=(flipM_small a dd w h c p (by omega)).2
  have f2:=(flipM_small a' dd' w' h' c' p' (by omega)).2
  rw [flipM_of hL.1] at h9 f1
  rw [flipM_of hL.2.1] at h10 f2
  try dsimp only at f1 f2
  obtain ⟨K11,h11⟩:=implLike_ev a dd w h c (flipL w h p) a' dd' w' h' c' (flipL w' h' p') (by omega) (by omega) (by omega) (by omega)
  try dsimp only at h11
  try dsimp only at h11
  refine ⟨K1+K2+K3+K4+K5+K6+K7+K8+K9+K10+K11+K12+2,?_⟩
  show laws_FnImageLike.f _ l=_
  rw [start _ (by omega),if_pos (decide_eq_true hL),h9 _ (by omega),Option.bind_some,h10 _ (by omega),Option.bind_some]
  try dsimp only
  rw [h11 _ (by omega),Option.bind_some,if_pos (decide_eq_true (like_flip hL))]
  exact tail _ (by omega)
 ·refine ⟨K1+K2+K3+K4+K5+K6+K7+K8+K12+2,?_⟩
  show laws_FnImageLike.f _ l=_
  rw [start _ (by omega),if_neg (by rw [decide_eq_false hL];decide)]
  exact tail _ (by omega)

end Go.Proofs.Ytagbmaapahhmpaa.Pure
