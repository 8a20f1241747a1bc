/- The document's Step: a return that is done. A step keeps A and the words 64-bit numbers. The document's Step: its switch and its end. The document's Step, whole. -/
import Derived.Test.YtiakonmamkfopaaZTk
import Derived.Test.YtiakonmamkfopaaZCpuTd
import Derived.Test.YtiakonmamkfopaaZCpuMb
import Derived.Control
import Derived.Deep.CutBlock
namespace Go.Proofs.Ytiakonmamkfopaa
open Go.RowKit Go.ChangeShapes
set_option linter.unusedVariables false
set_option maxRecDepth 1000000
theorem frC_take (l : List Fr) (k j : Nat) (u : Value) (h : (frC (l.take k))[j]? = some u) : (frC l)[j]? = some u := by
  have e : frC l = frC (l.take k) ++ frC (l.drop k) := by rw [← frC_append, List.take_append_drop]
  rw [e, List.getElem?_append_left (List.getElem?_eq_some_iff.1 h).1]
  exact h
set_option maxHeartbeats 8000000 in
theorem sw21 {W : World} {b2 b4 b5 b9 b11 b12 b14 n' c P : Nat} {ad : Option Addr} {s t : St} {n : Int} {g : Sg} {u mv : Value} {v0 v3 aM aN aO aP aQ aR aS aT aU aV aa ab ac ae af ag ah ai aj ak al am an ao ap aq ar av aw ax ay az aA aB aC aD aE aF aG aH aI aJ aK aL aW aX aY aZ a0 a1 a3 a4 a5 a6 a7 a8 a9 ba bb bc bd be bf bg bh bi bj bk bl bm bn bo bp bq br bs bt bu bv bw bx bz bA bB bC bD bE bF bG bH bI bJ bK bL bM bN bO bP bQ bR bS bT bU bV bW bX bY bZ b0 b1 b3 b6 b7 b8 ca cb cc cd ce cg ch ci cj ck cl cm cn co cp cq cr ct cv cw cx cy cz cA cB cC cD cE cF cG cH cI cJ cK cL cM cN cO cP cQ cR cS cT cU cV cW cX cY cZ da db dc dd de df dg dh di dj dk dl dm dn dp dq dr ds dt du dv dw dx dy dz dA dB dC dD dE dF dG dH dI dJ dK dL dM dO dP dQ dR dS dT dU dV dW dX dY dZ d0 d1 d2 d3 d4 d5 d6 d7 d8 ea ec ed ee ef eg eh ei ej ek el em en ep eq es et eu ev ew ey ez eA eB eC eD eE eF eG eH eI eJ eK eL eM eN eO eP eQ eR eS eT eU eV eW eX eY eZ e5 e9 fa fb fc fd fe ff fg fh fi fj fk fl fm fn fo fp fq fr fs ft fu fv fw fx fy fz fA fB fC fD fE fF fG fH fI fJ fK fL fM fN fO fP fQ fR fS fT fU fV fW fX : Value} {Q : Exit → Act → World → Prop} (l : List Fr) (f : Fr) (k : Nat) (E : SE W b2 b4 b5 b9 b11 b12 b14 s t (.slice ad n' c) 21 n P g u) (hk : rstkAt W (.slice ad n' c) l) (hn : n' = k + 1) (hl : l.length = k + 1) (hf : l[k]? = some f) (hkb : k < 100000) (hr : ¬ f.ring < s.ring)
    (hQ : ∀ (f3 f4 f5 f6 f7 f8 f9 ga gb gc gd ge gg gh gi gj gk gl gm gn gp gq gr gt gv gw gx gy gz gA gB gC gD gE gF gG gH gI gJ gK gL gM gN gO gP gQ gR gS gT gU gV gW gX gY gZ g0 g1 g3 g4 g5 g7 g8 g9 hm hp hC hD hE hG hH hI hJ hL hN hR hS hU hV hW hX h9 ia ib ic ie ig ih ii ij ik il im io ip iq ir it iu iv iw ix iy iz iA iB iC iD iE iG iH iI iJ iK iL iM iN iO iP iQ iR iS iT iU iV iW iX iY iZ i2 i3 i4 i5 i6 i7 i8 ja jb jc jd je jf jg jh ji jj jk jl jm jn jo jp jq jr js jt ju jv jw jx jy jz jA jB jC jD jE jF jG jH jI jJ jK jL jM jN jO jP jQ jR jS jT jU jV jW jX jY jZ j0 j1 j2 j3 j4 j5 j6 j7 j8 j9 ka kb kc kd ke kf kg kh ki kj kk kl km kn kp kq kr ks kt ku kv kw kx ky kz kA kB kC kD kE kF kG kH kI kJ kK kL kM kN kO kP kQ kR kS kT kU kV kW kX kY kZ k3 k4 k5 k6 k7 k8 k9 la lb lc ld le lf lg lh li lj lk ll lm ln lo lp lq lr ls lu lv lw lx ly lz lA lB lC lD lE lF : Value) (W' : World) (v : Value), T20 W W' b11 (St.raise { t with seg := f.seg, off := f.off, ring := f.ring } f.ring) v l.dropLast → (∃ ad n c, v = .slice ad n c) → Q .normal ⟨(v0::mv::(.pointer (some ⟨b2, 0, none⟩))::v3::(.pointer (some ⟨b4, 0, none⟩))::(.pointer (some ⟨b5, 0, none⟩))::(.int .i64 0)::(.bool false)::(.int .i64 0)::(.pointer (some ⟨b9, 0, none⟩))::f3::(.pointer (some ⟨b11, 0, none⟩))::(.pointer (some ⟨b12, 0, none⟩))::(.int .i64 (s.eb (P : Int)))::(.pointer (some ⟨b14, 0, none⟩))::f4::f5::f6::f7::f8::f9::ga::gb::gc::aa::ab::ac::ae::af::ag::ah::ai::aj::ak::al::am::an::ao::ap::aq::ar::av::aw::ax::ay::az::aA::aB::aC::aD::aE::aF::aG::aH::aI::aJ::aK::aL::gd::ge::gg::gh::gi::gj::gk::gl::gm::gn::gp::gq::gr::gt::gv::gw::gx::gy::gz::gA::gB::gC::gD::gE::gF::gG::gH::gI::gJ::gK::gL::gM::gN::gO::gP::gQ::gR::gS::gT::gU::gV::gW::gX::gY::gZ::g0::g1::g3::g4::g5::g7::g8::g9::hm::hp::hC::hD::hE::hG::hH::hI::hJ::hL::hN::hR::hS::hU::hV::hW::hX::h9::ia::ib::ic::ie::ig::ih::ii::ij::ik::il::im::io::ip::iq::ir::it::iu::iv::iw::ix::iy::iz::iA::iB::iC::iD::iE::iG::iH::iI::iJ::iK::iL::iM::iN::iO::iP::iQ::iR::iS::iT::iU::iV::iW::iX::iY::iZ::i2::i3::i4::i5::i6::i7::i8::ja::jb::jc::jd::je::jf::jg::jh::ji::jj::jk::jl::jm::jn::jo::jp::jq::jr::js::jt::ju::jv::jw::jx::jy::jz::jA::jB::jC::jD::jE::jF::jG::jH::jI::jJ::jK::jL::jM::jN::jO::jP::jQ::jR::jS::jT::jU::jV::jW::jX::jY::jZ::j0::j1::j2::j3::j4::j5::j6::j7::j8::j9::ka::kb::kc::kd::ke::kf::kg::kh::ki::kj::kk::kl::km::kn::kp::kq::kr::ks::kt::ku::kv::kw::kx::ky::kz::kA::kB::kC::kD::kE::kF::kG::kH::kI::kJ::kK::kL::kM::kN::kO::kP::kQ::kR::kS::kT::kU::kV::kW::kX::kY::kZ::k3::k4::k5::k6::k7::k8::k9::la::lb::lc::ld::le::lf::lg::lh::li::lj::lk::ll::lm::ln::lo::lp::lq::lr::ls::lu::lv::lw::lx::ly::lz::lA::lB::lC::lD::lE::lF::fW::fX::[]).toArray, []⟩ W') : Code.wp Try.prog sw Q ⟨(v0::mv::(.pointer (some ⟨b2, 0, none⟩))::v3::(.pointer (some ⟨b4, 0, none⟩))::(.pointer (some ⟨b5, 0, none⟩))::(.int .i64 0)::(.bool false)::(.int .i64 0)::(.pointer (some ⟨b9, 0, none⟩))::aM::(.pointer (some ⟨b11, 0, none⟩))::(.pointer (some ⟨b12, 0, none⟩))::(.int .i64 (s.eb (P : Int)))::(.pointer (some ⟨b14, 0, none⟩))::aN::aO::aP::aQ::aR::aS::aT::aU::aV::aa::ab::ac::ae::af::ag::ah::ai::aj::ak::al::am::an::ao::ap::aq::ar::av::aw::ax::ay::az::aA::aB::aC::aD::aE::aF::aG::aH::aI::aJ::aK::aL::aW::aX::aY::aZ::a0::a1::a3::a4::a5::a6::a7::a8::a9::ba::bb::bc::bd::be::bf::bg::bh::bi::bj::bk::bl::bm::bn::bo::bp::bq::br::bs::bt::bu::bv::bw::bx::bz::bA::bB::bC::bD::bE::bF::bG::bH::bI::bJ::bK::bL::bM::bN::bO::bP::bQ::bR::bS::bT::bU::bV::bW::bX::bY::bZ::b0::b1::b3::b6::b7::b8::ca::cb::cc::cd::ce::cg::ch::ci::cj::ck::cl::cm::cn::co::cp::cq::cr::ct::cv::cw::cx::cy::cz::cA::cB::cC::cD::cE::cF::cG::cH::cI::cJ::cK::cL::cM::cN::cO::cP::cQ::cR::cS::cT::cU::cV::cW::cX::cY::cZ::da::db::dc::dd::de::df::dg::dh::di::dj::dk::dl::dm::dn::dp::dq::dr::ds::dt::du::dv::dw::dx::dy::dz::dA::dB::dC::dD::dE::dF::dG::dH::dI::dJ::dK::dL::dM::dO::dP::dQ::dR::dS::dT::dU::dV::dW::dX::dY::dZ::d0::d1::d2::d3::d4::d5::d6::d7::d8::ea::ec::ed::ee::ef::eg::eh::ei::ej::ek::el::em::en::ep::eq::es::et::eu::ev::ew::ey::ez::eA::eB::eC::eD::eE::eF::eG::eH::eI::eJ::eK::eL::eM::eN::eO::eP::eQ::eR::eS::eT::eU::eV::eW::eX::eY::eZ::e5::e9::fa::fb::fc::fd::fe::ff::fg::fh::fi::fj::fk::fl::fm::fn::fo::fp::fq::fr::fs::ft::fu::fv::fw::fx::fy::fz::fA::fB::fC::fD::fE::fF::fG::fH::fI::fJ::fK::fL::fM::fN::fO::fP::fQ::fR::fS::fT::fU::fV::fW::fX::[]).toArray, []⟩ W := by
  have i0 : W.cell? ⟨b9, 0, none⟩ = some (.int .i64 21) := E.i9.facts.1.1
  subst hn
  have hkm : k < 100000 := hkb
  have hk2 : W.ownsRow 0 92 3 (.slice ad (k + 1) c) (k + 1) (frC l) := by have h := hk; unfold rstkAt at h; rw [hl] at h; exact h
  obtain ⟨gs, cs, hq⟩ := row_some hk2 (by omega)
  have hq2 : ad = some ⟨gs, 0, none⟩ := by injection hq
  subst hq2
  have f0 : W.cell? ⟨gs, k * 3, none⟩ = some (.int .i64 f.seg) := (row_cell hk2 (k * 3 + 0) (by rw [frC_get l k f hf 0 (by decide)]; rfl)).2
  have f1 : W.cell? ⟨gs, k * 3 + 1, none⟩ = some (.int .i64 f.off) := (row_cell hk2 (k * 3 + 1) (by rw [frC_get l k f hf 1 (by decide)]; rfl)).2
  have f2 : W.cell? ⟨gs, k * 3 + 2, none⟩ = some (.int .i64 f.ring) := (row_cell hk2 (k * 3 + 2) (by rw [frC_get l k f hf 2 (by decide)]; rfl)).2
  have s16 : W.cell? ⟨b2, 16, none⟩ = some (.slice (some ⟨gs, 0, none⟩) (k + 1) c) := E.s2.cell 16
  have s2r : W.cell? ⟨b2, 2, none⟩ = some (.int .i64 s.ring) := E.s2.cell 2
  have hz : ((k : Int) + 1 == 0) = false := by simp; omega
  have hb2 : b2 < W.heap.size := E.s2.lt
  have hb4 : b4 < W.heap.size := E.z4.lt
  have hb5 : b5 < W.heap.size := E.z5.lt
  have KW := Lib.hid hk2
  have hkc : k ≤ c := by
    rcases hk2.2 with ⟨_, e0⟩ | ⟨_, _, _, hv, _, _, hle, _⟩
    · omega
    · injection hv with _ _ e3
      omega
  clear hk hk2 hf
  have hb11 : b11 < W.heap.size := E.t11.lt
  have HY : Hid (blk4 W b5 45 (.bool false) (.int .i64 0) (.int .i64 0) (.int .i64 0)) := E.z5
  have HZ : Hid (rsAt W b4 St.zero (.slice none 0 0)) := E.z4
  have HD := Lib.hid E.d
  replace E := Lib.hid E
  conv => arg 2; whnf
  go_upto_region 61 with fail
  obtain ⟨w1, hw1, F1, HB⟩ : ∃ X, W.alloc (.cells #[.int .i64 f.seg, .int .i64 f.off, .int .i64 f.ring] 92) = X ∧ Hid (blk3 X W.heap.size 92 (.int .i64 f.seg) (.int .i64 f.off) (.int .i64 f.ring)) ∧ Hid (Below W.heap.size W X) := ⟨_, rfl, heap_alloc_new _ _, below_al0 _ _⟩
  rw [hw1]
  clear hw1
  have HT : Hid (rsAt w1 b11 t (.slice (some ⟨gs, 0, none⟩) (k + 1) c)) := Off.keeps (.of_below (ex := fun _ => False) HB.out) E.out.t11 id
  have H2 : Hid (rsAt w1 b2 s (.slice (some ⟨gs, 0, none⟩) (k + 1) c)) := Off.keeps (.of_below (ex := fun _ => False) HB.out) E.out.s2 id
  refine wp_region_noPanic ?_
  refine wp_region_held_drew (S := fun w' => Off (· = b11) w1.drew w') (by kernel_rfl) (Off.refl _ _) (fun hHeld => ?_)
  have k0 : ∀ w', Off (· = b11) w1.drew w' → w'.cell? ⟨W.heap.size, 0, none⟩ = some (.int .i64 f.seg) := fun w' h => (show blk3 w' W.heap.size 92 (.int .i64 f.seg) (.int .i64 f.off) (.int .i64 f.ring) from Off.keeps h (show blk3 w1.drew W.heap.size 92 (.int .i64 f.seg) (.int .i64 f.off) (.int .i64 f.ring) from F1.out) (by omega)).facts.1.1
  have k1 : ∀ w', Off (· = b11) w1.drew w' → w'.cell? ⟨W.heap.size, 1, none⟩ = some (.int .i64 f.off) := fun w' h => (show blk3 w' W.heap.size 92 (.int .i64 f.seg) (.int .i64 f.off) (.int .i64 f.ring) from Off.keeps h (show blk3 w1.drew W.heap.size 92 (.int .i64 f.seg) (.int .i64 f.off) (.int .i64 f.ring) from F1.out) (by omega)).facts.1.2.1
  have k2 : ∀ w', Off (· = b11) w1.drew w' → w'.cell? ⟨W.heap.size, 2, none⟩ = some (.int .i64 f.ring) := fun w' h => (show blk3 w' W.heap.size 92 (.int .i64 f.seg) (.int .i64 f.off) (.int .i64 f.ring) from Off.keeps h (show blk3 w1.drew W.heap.size 92 (.int .i64 f.seg) (.int .i64 f.off) (.int .i64 f.ring) from F1.out) (by omega)).facts.1.2.2
  have LD : Hid (Below W.heap.size W w1.drew) := below_drew HB.out
  replace HT : Hid (rsAt w1.drew b11 t (.slice (some ⟨gs, 0, none⟩) (k + 1) c)) := HT
  replace H2 : Hid (rsAt w1.drew b2 s (.slice (some ⟨gs, 0, none⟩) (k + 1) c)) := H2
  replace F1 : Hid (blk3 w1.drew W.heap.size 92 (.int .i64 f.seg) (.int .i64 f.off) (.int .i64 f.ring)) := F1
  clear HB
  generalize w1.drew = D at HT H2 F1 LD k0 k1 k2 hHeld ⊢
  try simp only [Act.put, sA, sB, sC]
  refine tkA 0 ?_
  try simp only [Act.put, sA, sB, sC]
  refine tkA 1 ?_
  try simp only [Act.put, sA, sB, sC]
  refine tkA 2 ?_
  try simp only [Act.put, sA, sB, sC]
  refine tkA 3 ?_
  try simp only [Act.put, sA, sB, sC]
  refine tkA 4 ?_
  try simp only [Act.put, sA, sB, sC]
  refine tkA 5 ?_
  try simp only [Act.put, sA, sB, sC]
  refine tkA 6 ?_
  try simp only [Act.put, sA, sB, sC]
  have c0 : D.cell? ⟨b11, 0, none⟩ = some (.int .i64 t.seg) := HT.out.cell 0
  have c1 : D.cell? ⟨b11, 1, none⟩ = some (.int .i64 t.off) := HT.out.cell 1
  have c2 : D.cell? ⟨b11, 2, none⟩ = some (.int .i64 t.ring) := HT.out.cell 2
  have cf : ∀ j, D.frozen? ⟨b11, j, none⟩ = false := fun j => HT.out.free j
  clear k0 k1 k2
  refine rdA 7 (fun K hK => ?_)
  go_simp
  refine hK.out _ _ ?_ (fun hHeld => ?_)
  · exact off1 _ _ _ _
  clear hK K
  try simp only [Act.put, sA, sB, sC]
  refine tkA 8 ?_
  try simp only [Act.put, sA, sB, sC]
  refine rdA 9 (fun K hK => ?_)
  go_simp
  refine hK.out _ _ ?_ (fun hHeld => ?_)
  · exact (off1 _ _ _ _).trans (off1 _ _ _ _)
  clear hK K
  try simp only [Act.put, sA, sB, sC]
  refine tkA 10 ?_
  try simp only [Act.put, sA, sB, sC]
  refine rdA 11 (fun K hK => ?_)
  go_simp
  refine hK.out _ _ ?_ (fun hHeld => ?_)
  · exact ((off1 _ _ _ _).trans (off1 _ _ _ _)).trans (off1 _ _ _ _)
  clear hK K
  try simp only [Act.put, sA, sB, sC]
  refine wpAnyH_done (by kernel_rfl) ?_ _
  refine NoPanic.normal ?_
  obtain ⟨Z, hZ, TZ, OZ⟩ : ∃ Z, ((D.setCell ⟨b11, 0, none⟩ (.int .i64 f.seg)).setCell ⟨b11, 1, none⟩ (.int .i64 f.off)).setCell ⟨b11, 2, none⟩ (.int .i64 f.ring) = Z ∧ Hid (rsAt Z b11 { t with seg := f.seg, off := f.off, ring := f.ring } (.slice (some ⟨gs, 0, none⟩) (k + 1) c)) ∧ Hid (Off (· = b11) D Z) := ⟨_, rfl, rs_place HT.out _ _ _, (((off1 _ _ _ _).trans (off1 _ _ _ _)).trans (off1 _ _ _ _))⟩
  rw [hZ]
  clear hZ c0 c1 c2 cf
  have s62 : Z.cell? ⟨b2, 16, none⟩ = some (.slice (some ⟨gs, 0, none⟩) (k + 1) c) := (show rsAt Z b2 s (.slice (some ⟨gs, 0, none⟩) (k + 1) c) from Off.keeps OZ.out H2.out (by have := HD.out; omega)).cell 16
  have z2 : b2 < Z.heap.size := (show rsAt Z b2 s (.slice (some ⟨gs, 0, none⟩) (k + 1) c) from Off.keeps OZ.out H2.out (by have := HD.out; omega)).lt
  clear f0 f1 f2 s16
  obtain ⟨t3, ht3⟩ : ∃ t3 : St, { t with seg := f.seg, off := f.off, ring := f.ring } = t3 := ⟨_, rfl⟩
  rw [ht3] at TZ
  replace ht3 := Lib.hid ht3
  have OW : Hid (Off (· = b11) W Z) := (Off.of_below LD.out).trans OZ.out
  have KZ : Z.ownsRow 0 92 3 (.slice (some ⟨gs, 0, none⟩) (k + 1) c) (k + 1) (frC l) := Off.row OZ.out (Off.row (ex := fun _ => False) (.of_below LD.out) KW.out (fun _ h => h.elim)) (rs_not HT.out _ (by decide))
  have FZ : blk3 Z W.heap.size 92 (.int .i64 f.seg) (.int .i64 f.off) (.int .i64 f.ring) := Off.keeps OZ.out F1.out (by omega)
  have hWZ : W.heap.size < Z.heap.size := (Array.getElem?_eq_some_iff.1 (show Z.heap[W.heap.size]? = _ from FZ)).1
  have BV : Hid (Below Z.heap.size Z (Z.alloc (.cells #[] 92))) := below_al0 _ _
  have EV : Hid ((Z.alloc (.cells #[] 92)).ownsRow W.heap.size 92 3 (.slice (some ⟨Z.heap.size, 0, none⟩) 0 0) 0 []) := empty_row2 Z W.heap.size 92 3 (Nat.le_of_lt hWZ)
  have KV : Hid ((Z.alloc (.cells #[] 92)).ownsRow 0 92 3 (.slice (some ⟨gs, 0, none⟩) (k + 1) c) (k + 1) (frC l)) := Off.row (ex := fun _ => False) (.of_below BV.out) KZ (fun _ h => h.elim)
  have TV : Hid (rsAt (Z.alloc (.cells #[] 92)) b11 t3 (.slice (some ⟨gs, 0, none⟩) (k + 1) c)) := Off.keeps (ex := fun _ => False) (.of_below BV.out) TZ.out id
  have FV : Hid (blk3 (Z.alloc (.cells #[] 92)) W.heap.size 92 (.int .i64 f.seg) (.int .i64 f.off) (.int .i64 f.ring)) := Off.keeps (ex := fun _ => False) (.of_below BV.out) FZ id
  have OV : Hid (Off (· = b11) W (Z.alloc (.cells #[] 92))) := OW.out.trans (.of_below BV.out)
  have hZ11 : Hid (b11 < Z.heap.size) := TZ.out.lt
  have hsz : Hid (W.heap.size ≤ (Z.alloc (.cells #[] 92)).heap.size) := Nat.le_trans (Nat.le_of_lt hWZ) BV.out.size
  replace hWZ := Lib.hid hWZ
  clear KZ FZ
  have hkl := Lib.hid hl
  have HKM := Lib.hid hkm
  obtain ⟨iF, hiF, hz0, hz1, hz2⟩ := info_parts A.infoRF
  clear hl hkb
  go_upto_region 63 with (first | (at_builtin; refine wpList_append_own _ rfl (.tmp 312) (.tmp 319) 37 rfl W.heap.size 92 iF (.agg #[.int .i64 0, .int .i64 0, .int .i64 0]) 3 24 A.underRF hiF hz0 hz1 hz2 rfl (by decide) (.slice (some ⟨Z.heap.size, 0, none⟩) 0 0) 0 [] rfl EV.out ⟨gs, 0, none⟩ k c (frC (l.take k)) rfl (by rw [frC_length, List.length_take]; have := hkl.out; omega) (fun j u hj => row_cells KV.out _ rfl j u (frC_take l k j u hj)) (frC_one _) (by have := HKM.out; unfold maxLen; omega) (by have := HKM.out; omega) hsz.out ?_; intro v2 w8 hown hgrow _; rw [Nat.zero_add, List.nil_append] at hown; obtain ⟨a2, c2, hq, _, _⟩ := row_shape hown; subst hq; have O8 : Hid (Off (fun j => Z.heap.size = j) (Z.alloc (.cells #[] 92)) w8) := (Off.refl _ _).grown hgrow (fun j hj => .inl (Option.some.inj hj)); have OW8 : Hid (Off (· = b11) W w8) := OV.out.grown hgrow (fun j hj => .inr (own_lo2 EV.out j hj)); have T8 : Hid (rsAt w8 b11 t3 (.slice (some ⟨gs, 0, none⟩) (k + 1) c)) := Off.keeps O8.out TV.out (by have := hZ11.out; omega); have F8 : Hid (blk3 w8 W.heap.size 92 (.int .i64 f.seg) (.int .i64 f.off) (.int .i64 f.ring)) := Off.keeps O8.out FV.out (by have := hWZ.out; omega); replace hown := Lib.hid hown; clear hgrow; have c16 : w8.cell? ⟨b11, 16, none⟩ = some (.slice (some ⟨gs, 0, none⟩) (k + 1) c) := T8.out.cell 16; have cf : ∀ j, w8.frozen? ⟨b11, j, none⟩ = false := fun j => T8.out.free j))
  obtain ⟨Y, hY, TY, KY, OY, FY⟩ : ∃ Y, w8.setCell ⟨b11, 16, none⟩ (.slice a2 k c2) = Y ∧ Hid (rsAt Y b11 t3 (.slice a2 k c2)) ∧ Hid (Y.ownsRow 0 92 3 (.slice a2 k c2) k (frC (l.take k))) ∧ Hid (Off (· = b11) W Y) ∧ Hid (blk3 Y W.heap.size 92 (.int .i64 f.seg) (.int .i64 f.off) (.int .i64 f.ring)) := ⟨_, rfl, rs_stk T8.out _, row_base (Off.row (off1 _ _ _ _) hown.out (rs_not T8.out _ (by decide))) (Nat.zero_le _), OW8.out.setCell (ex := (· = b11)) (.inl rfl) _, Off.keeps (off1 _ _ _ _) F8.out (by omega)⟩
  rw [hY]
  clear hY c16 cf
  have y2 : Y.cell? ⟨W.heap.size, 2, none⟩ = some (.int .i64 f.ring) := FY.out.facts.1.2.2
  have y11 : b11 < Y.heap.size := TY.out.lt
  have yW : W.heap.size < Y.heap.size := (Array.getElem?_eq_some_iff.1 (show Y.heap[W.heap.size]? = _ from FY.out)).1
  go_wp2_with (first | ((with_reducible refine wpList_load_rs (op := ⟨some 322, .load 39 (.tmp 11), _, _, _, _⟩) (N := b11) (s := t3) (stk := (.slice a2 k c2)) ?_ (.tmp 11) ?_ ?_ ?_ ?_); exact rfl; exact rfl; exact rfl; exact rs_range TY.out) | (go_at_call 50; refine (c_rraise Y t3 a2 k c2 f.ring).mono ?_; rintro e w9 ⟨rfl, hb9⟩; have T9 : Hid (rsAt w9 b11 t3 (.slice a2 k c2)) := Off.keeps (.of_below (ex := fun _ => False) hb9) TY.out id; have B9 := Lib.hid hb9; clear hb9; (try dsimp only)) | ((with_reducible refine wpList_store_rs (op := ⟨none, .store 39 (.tmp 11) (.tmp 325), _, _, _, _⟩) (N := b11) (s := t3) (stk := (.slice a2 k c2)) (s' := (t3.raise f.ring)) (stk' := (.slice a2 k c2)) ?_ (.tmp 11) (.tmp 325) ?_ ?_ ?_ ?_ ?_ ?_); exact rfl; exact rfl; exact rfl; exact rfl; exact T9.out; exact rfl; intro w10 S1 F10; replace S1 := Lib.hid S1; replace F10 := Lib.hid F10))
  refine hQ _ _ _ _ _ _ _ _ _ _ _ _ _ _ _ _ _ _ _ _ _ _ _ _ _ _ _ _ _ _ _ _ _ _ _ _ _ _ _ _ _ _ _ _ _ _ _ _ _ _ _ _ _ _ _ _ _ _ _ _ _ _ _ _ _ _ _ _ _ _ _ _ _ _ _ _ _ _ _ _ _ _ _ _ _ _ _ _ _ _ _ _ _ _ _ _ _ _ _ _ _ _ _ _ _ _ _ _ _ _ _ _ _ _ _ _ _ _ _ _ _ _ _ _ _ _ _ _ _ _ _ _ _ _ _ _ _ _ _ _ _ _ _ _ _ _ _ _ _ _ _ _ _ _ _ _ _ _ _ _ _ _ _ _ _ _ _ _ _ _ _ _ _ _ _ _ _ _ _ _ _ _ _ _ _ _ _ _ _ _ _ _ _ _ _ _ _ _ _ _ _ _ _ _ _ _ _ _ _ _ _ _ _ _ _ _ _ _ _ _ _ _ _ _ _ _ _ _ _ _ _ _ _ _ _ _ _ _ _ _ _ _ _ _ _ _ _ _ _ _ _ _ _ _ _ _ _ _ _ _ _ _ _ _ _ _ _ _ _ _ _ _ _ _ _ _ _ _ _ _ _ _ _ _ _ _ _ _ ⟨by rw [ht3.out]; exact S1.out, (OY.out.trans (.of_below B9.out)).trans F10.out, ?_⟩ ⟨_, _, _, rfl⟩
  have h := Off.row F10.out (Off.row (ex := fun _ => False) (.of_below B9.out) KY.out (fun _ h => h.elim)) (rs_not T9.out _ (by decide))
  have hd : l.dropLast = l.take k := by rw [List.dropLast_eq_take, hkl.out]; rfl
  have hdl : (l.take k).length = k := by rw [List.length_take]; have := hkl.out; omega
  unfold rstkAt
  rw [hd, hdl]
  exact h
end Go.Proofs.Ytiakonmamkfopaa
namespace Go.Proofs.Ytiakonmamkfopaa
open Go.RowKit Go.ChangeShapes
set_option linter.unusedVariables false
theorem wf_wrap (x : Int) : WfI (wrap64 x) := by
  apply wfI_of <;> unfold wrap64 <;> omega
theorem wf_bitsN (n : Nat) : WfI (bitsN n) := by
  unfold bitsN
  split
  · exact wfI_of (by decide) (by decide)
  · exact wf_wrap _
theorem wf_fbin (op : BinOp) (a b : Int) : WfI (fbin op a b) := by
  unfold fbin bitsO
  split
  · exact wf_bitsN _
  · exact wfI_of (by decide) (by decide)
theorem wf_fless (a b : Int) : WfI (fless a b) := by
  unfold fless
  split
  · exact wfI_of (by decide) (by decide)
  · split <;> exact wfI_of (by decide) (by decide)
theorem wf_toInt (a : Int) : WfI (toInt a) := by
  unfold toInt
  split
  · exact wfI_of (by decide) (by decide)
  · rename_i h
    exact floatToIntVal_wf (trunc_eq (a := a) (by simpa using h))
theorem wf_arR (op a b : Int) : WfI (arR op a b) := by
  unfold arR
  repeat' split
  all_goals first | exact wf_wrap _ | exact wf_fbin _ _ _ | exact wf_fless _ _
theorem wf_dN (a : Int) : WfI (dN a) := by
  apply wfI_of <;> unfold dN <;> split <;> omega
theorem seg_mem {M : List Sg} {k : Int} {g : Sg} (h : seg? M k = some g) : g ∈ M := by
  unfold seg? at h
  split at h
  · cases h
  · split at h
    · rename_i s' hs'
      split at h
      · cases h
        exact List.mem_of_getElem? hs'
      · cases h
    · cases h
theorem rd_mem {M : List Sg} {s : St} {p n x : Int} {g : Sg} (h : rdR M s p n = .ok (x, g)) : g ∈ M ∧ x ∈ g.ws := by
  unfold rdR at h
  split at h
  · cases h
  · rename_i g' hg
    split at h
    · cases h
    · split at h
      · rename_i hi
        simp only [Except.ok.injEq, Prod.mk.injEq] at h
        obtain ⟨rfl, rfl⟩ := h
        refine ⟨seg_mem hg, ?_⟩
        rw [List.getD_eq_getElem?_getD, List.getElem?_eq_getElem (by omega)]
        exact List.getElem_mem _
      · cases h
/-- a step's state and its written word -/
def WfR (r : Res) : Prop := WfI r.s.a ∧ ∀ k o y, r.st = some (k, o, y) → WfI y
theorem doR_wf {M : List Sg} {s : St} {l : List Fr} {op p n : Int} {r : Res} (h : doR M s l op p n = .ok r) (hA : WfI s.a) (hM : ∀ g ∈ M, ∀ x ∈ g.ws, WfI x) (hn : WfI n) : WfR r := by
  have none' : ∀ (s' : St) (l' : List Fr) (b : Bool) (x : Int), WfI s'.a → WfR ⟨s', l', b, x, none⟩ := fun s' l' b x h => ⟨h, fun k o y e => by cases e⟩
  have hset : ∀ (k : Nat) (q : Pt), (s.setP k q).a = s.a := fun k q => by unfold St.setP; split <;> rfl
  unfold doR at h
  by_cases c0 : op = 0
  · rw [if_pos c0] at h
    cases h
    exact none' _ _ _ _ hA
  rw [if_neg c0] at h
  by_cases c1 : op = 1
  · rw [if_pos c1] at h
    cases hr : rdR M s p n with
    | error e => rw [hr] at h; cases h
    | ok xg =>
      obtain ⟨x, g⟩ := xg
      rw [hr] at h
      cases h
      exact none' _ _ _ _ (hM _ (rd_mem hr).1 _ (rd_mem hr).2)
  rw [if_neg c1] at h
  by_cases c2 : 4 ≤ op ∧ op ≤ 11
  · rw [if_pos c2] at h
    cases hr : rdR M s p n with
    | error e => rw [hr] at h; cases h
    | ok xg =>
      obtain ⟨x, g⟩ := xg
      rw [hr] at h
      cases h
      exact none' _ _ _ _ (wf_arR _ _ _)
  rw [if_neg c2] at h
  by_cases c3 : op = 2
  · rw [if_pos c3] at h
    cases hr : wrR M s p n with
    | error e => rw [hr] at h; cases h
    | ok ko =>
      obtain ⟨k, o⟩ := ko
      rw [hr] at h
      cases h
      refine ⟨hA, fun k o y e => ?_⟩
      cases e
      exact hA
  rw [if_neg c3] at h
  by_cases c4 : op = 3
  · rw [if_pos c4] at h
    cases h
    exact none' _ _ _ _ hn
  rw [if_neg c4] at h
  by_cases c5 : op = 12
  · rw [if_pos c5] at h
    cases h
    exact none' _ _ _ _ (wf_bitsN _)
  rw [if_neg c5] at h
  by_cases c6 : op = 13
  · rw [if_pos c6] at h
    by_cases he : toIntE s.a = 0
    · rw [if_pos he] at h
      cases h
      exact none' _ _ _ _ (wf_toInt _)
    · rw [if_neg he] at h
      cases h
  rw [if_neg c6] at h
  by_cases c7 : jmpR op s.a
  · rw [if_pos c7] at h
    cases h
    exact none' _ _ _ _ hA
  rw [if_neg c7] at h
  by_cases c8 : op = 17
  · rw [if_pos c8] at h
    cases h
    exact none' _ _ _ _ (by rw [hset]; exact hA)
  rw [if_neg c8] at h
  by_cases c9 : op = 18
  · rw [if_pos c9] at h
    cases hr : rdR M s p n with
    | error e => rw [hr] at h; cases h
    | ok xg =>
      obtain ⟨x, g⟩ := xg
      rw [hr] at h
      cases h
      exact none' _ _ _ _ (by rw [hset]; exact hA)
  rw [if_neg c9] at h
  by_cases c10 : op = 19
  · rw [if_pos c10] at h
    cases h
    exact none' _ _ _ _ (wf_encP _ _ _)
  rw [if_neg c10] at h
  by_cases c11 : op = 20
  · rw [if_pos c11] at h
    cases hc : caR M s l p n with
    | error e => rw [hc] at h; cases h
    | ok sl =>
      obtain ⟨s', l'⟩ := sl
      rw [hc] at h
      cases h
      refine none' _ _ _ _ ?_
      unfold caR at hc
      repeat' split at hc
      all_goals first | (cases hc; done) | (cases hc; exact hA)
  rw [if_neg c11] at h
  by_cases c12 : op = 21
  · rw [if_pos c12] at h
    cases hc : reR s l with
    | error e => rw [hc] at h; cases h
    | ok sl =>
      obtain ⟨s', l'⟩ := sl
      rw [hc] at h
      cases h
      refine none' _ _ _ _ ?_
      unfold reR at hc
      repeat' split at hc
      all_goals first | (cases hc; done) | (cases hc; exact hA)
  rw [if_neg c12] at h
  by_cases c13 : op = 22
  · rw [if_pos c13] at h
    cases h
    exact none' _ _ _ _ hA
  · rw [if_neg c13] at h
    cases h
    exact none' _ _ _ _ hA
theorem feR_n {M : List Sg} {s : St} {op p n : Int} (h : feR M s = .ok (op, p, n)) : WfI n ∧ 0 ≤ s.off ∧ ∃ g, g ∈ M ∧ s.off < g.ws.length := by
  unfold feR at h
  split at h
  · cases h
  · rename_i g hg
    split at h
    · cases h
    · split at h
      · cases h
      · rename_i hi
        dsimp only at h
        split at h
        · simp only [Except.ok.injEq, Prod.mk.injEq] at h
          obtain ⟨_, _, rfl⟩ := h
          exact ⟨wf_dN _, by omega, g, seg_mem hg, by omega⟩
        · cases h
theorem stR_wf {M : List Sg} {s : St} {l : List Fr} {r : Res} (h : stR M s l = .ok r) (hA : WfI s.a) (hM : ∀ g ∈ M, ∀ x ∈ g.ws, WfI x) : WfR r := by
  unfold stR at h
  split at h
  · cases h
    exact ⟨hA, fun k o y e => by cases e⟩
  · split at h
    · cases h
    · rename_i op p n hf
      exact doR_wf h hA hM (feR_n hf).1
theorem set_wf {M : List Sg} {K o : Nat} {g : Sg} {y : Int} (h : ∀ g ∈ M, ∀ x ∈ g.ws, WfI x) (hK : M[K]? = some g) (hy : WfI y) : ∀ g' ∈ M.set K { g with ws := g.ws.set o y }, ∀ x ∈ g'.ws, WfI x := by
  intro g' hg' x hx
  rcases List.mem_or_eq_of_mem_set hg' with h1 | h1
  · exact h g' h1 x hx
  · subst h1
    rcases List.mem_or_eq_of_mem_set hx with h2 | h2
    · exact h g (List.mem_of_getElem? hK) x h2
    · subst h2; exact hy
end Go.Proofs.Ytiakonmamkfopaa
namespace Go.Proofs.Ytiakonmamkfopaa
open Go.RowKit Go.ChangeShapes
set_option linter.unusedVariables false
set_option maxRecDepth 1000000
/-- what is written, as a value -/
def stoB (x : Option (Int × Int × Int)) : Bool := x.isSome
def stoK (x : Option (Int × Int × Int)) : Int := (x.getD (0, 0, 0)).1
def stoO (x : Option (Int × Int × Int)) : Int := (x.getD (0, 0, 0)).2.1
def stoW (x : Option (Int × Int × Int)) : Int := (x.getD (0, 0, 0)).2.2
/-- what a step leaves: its results' blocks and words -/
def OutR (W W' : World) (b4 b5 b11 : Nat) (x6 x7 x8 : Value) : Except Int Res → Prop
  | .error er => x6 = .int .i64 0 ∧ x7 = .bool false ∧ x8 = .int .i64 er ∧ OutQ W W' b4 b5 b11 St.zero (.slice none 0 0) false 0 0 0
  | .ok r => x6 = .int .i64 r.out ∧ x7 = .bool r.told ∧ x8 = .int .i64 0 ∧ ∃ v, (∃ ad n c, v = .slice ad n c) ∧ rstkAt W' v r.l ∧ OutQ W W' b4 b5 b11 r.s v (stoB r.st) (stoK r.st) (stoO r.st) (stoW r.st)
theorem OutP.toQ {W W' : World} {b4 b5 b11 : Nat} {s' : St} {v : Value} {is : Bool} {k o x : Int} (h : OutP W W' b4 b5 s' v is k o x) : OutQ W W' b4 b5 b11 s' v is k o x :=
  ⟨h.z, h.y, h.o.mono (fun _ _ e => e.elim .inl (fun e => .inr (.inl e)))⟩
theorem OutP.toQ2 {W W1 W' : World} {b4 b5 b11 : Nat} {s' : St} {v : Value} {is : Bool} {k o x : Int} (h : OutP W1 W' b4 b5 s' v is k o x) (hF : Off (· = b11) W W1) : OutQ W W' b4 b5 b11 s' v is k o x :=
  ⟨h.z, h.y, (hF.mono (fun _ _ e => .inr (.inr e))).trans (h.o.mono (fun _ _ e => e.elim .inl (fun e => .inr (.inl e))))⟩
theorem rd_err {M : List Sg} {s : St} {p n e : Int} (h : rdR M s p n = .error e) : ¬ e = 0 := by
  unfold rdR at h
  repeat' split at h
  all_goals first | (cases h; done) | (cases h; decide)
theorem callE_pos {a b c d x r : Int} (h : callE a b c d x r = 0) : 0 ≤ x := by
  unfold callE at h
  split at h
  · cases h
  · omega
theorem rd_seg {M : List Sg} {s : St} {P : Nat} {n x : Int} {g g2 : Sg} (h : rdR M s (P : Int) n = .ok (x, g2)) (hs : seg? M (s.pt P).seg = if g.is then some g else none) : g2 = g := by
  unfold rdR at h
  rw [Int.toNat_natCast, hs] at h
  split at h
  · cases h
  · rename_i g' hg'
    split at hg'
    · cases hg'
      split at h
      · cases h
      · split at h
        · simp only [Except.ok.injEq, Prod.mk.injEq] at h
          exact h.2.symm
        · cases h
    · cases hg'
theorem OutP.stk {W W' : World} {b2 b4 b5 b9 b11 b12 b14 : Nat} {s t s' : St} {v0 v v' u : Value} {op n : Int} {P : Nat} {g : Sg} {is : Bool} {k o x : Int} {l : List Fr} (E : SE W b2 b4 b5 b9 b11 b12 b14 s t v0 op n P g u) (h : OutP W W' b4 b5 s' v' is k o x) (hk : rstkAt W v l) : rstkAt W' v l := by
  refine Off.row h.o hk (fun k hk' cs hc => ?_)
  rcases hk' with e | e
  · subst e; exact rs_not E.z4 _ (by decide) _ rfl cs hc
  · subst e
    have h3 := (show W.heap[_]? = _ from E.z5).symm.trans hc
    simp only [Option.some.injEq, Obj.cells.injEq] at h3
    exact absurd h3.2.1 (by decide)
theorem pt_offS (s : St) (x : Int) (k : Nat) : St.pt { s with off := x } k = s.pt k := by unfold St.pt; split <;> rfl
theorem rd_off (M : List Sg) (s : St) (x p n : Int) : rdR M { s with off := x } p n = rdR M s p n := by
  unfold rdR St.eo St.eb
  simp only [pt_offS]
theorem wr_off (M : List Sg) (s : St) (x p n : Int) : wrR M { s with off := x } p n = wrR M s p n := by
  unfold wrR St.eo St.eb
  simp only [pt_offS]
set_option maxHeartbeats 4000000 in
theorem fin_ok {W W1 : World} {b2 b4 b5 b9 b11 b12 b14 n' c : Nat} {ad : Option Addr} {t : St} {eb : Int} {r : Res} {mv : Value} {v0 v3 aM aN aO aP aQ aR aS aT aU aV aa ab ac ae af ag ah ai aj ak al am an ao ap aq ar av aw ax ay az aA aB aC aD aE aF aG aH aI aJ aK aL aW aX aY aZ a0 a1 a3 a4 a5 a6 a7 a8 a9 ba bb bc bd be bf bg bh bi bj bk bl bm bn bo bp bq br bs bt bu bv bw bx bz bA bB bC bD bE bF bG bH bI bJ bK bL bM bN bO bP bQ bR bS bT bU bV bW bX bY bZ b0 b1 b3 b6 b7 b8 ca cb cc cd ce cg ch ci cj ck cl cm cn co cp cq cr ct cv cw cx cy cz cA cB cC cD cE cF cG cH cI cJ cK cL cM cN cO cP cQ cR cS cT cU cV cW cX cY cZ da db dc dd de df dg dh di dj dk dl dm dn dp dq dr ds dt du dv dw dx dy dz dA dB dC dD dE dF dG dH dI dJ dK dL dM dO dP dQ dR dS dT dU dV dW dX dY dZ d0 d1 d2 d3 d4 d5 d6 d7 d8 ea ec ed ee ef eg eh ei ej ek el em en ep eq es et eu ev ew ey ez eA eB eC eD eE eF eG eH eI eJ eK eL eM eN eO eP eQ eR eS eT eU eV eW eX eY eZ e5 e9 fa fb fc fd fe ff fg fh fi fj fk fl fm fn fo fp fq fr fs ft fu fv fw fx fy fz fA fB fC fD fE fF fG fH fI fJ fK fL fM fN fO fP fQ fR fS fT fU fV fW fX : Value} {Q : Exit → Act → World → Prop} (hT : rsAt W1 b11 t (.slice ad n' c)) (hF : Off (· = b11) W W1) (hZ : rsAt W b4 St.zero (.slice none 0 0)) (hY : blk4 W b5 45 (.bool false) (.int .i64 0) (.int .i64 0) (.int .i64 0)) (hd : b4 < b5 ∧ b5 < b11) (hk : rstkAt W1 (.slice ad n' c) r.l) (hr : r = ⟨t, r.l, false, 0, none⟩)
    (hQ : ∀ (fY fZ : Value) (x6 x7 x8 : Value) (W' : World), OutR W W' b4 b5 b11 x6 x7 x8 (.ok r) → Q .ret ⟨(v0::mv::(.pointer (some ⟨b2, 0, none⟩))::v3::(.pointer (some ⟨b4, 0, none⟩))::(.pointer (some ⟨b5, 0, none⟩))::x6::x7::x8::(.pointer (some ⟨b9, 0, none⟩))::aM::(.pointer (some ⟨b11, 0, none⟩))::(.pointer (some ⟨b12, 0, none⟩))::(.int .i64 eb)::(.pointer (some ⟨b14, 0, none⟩))::aN::aO::aP::aQ::aR::aS::aT::aU::aV::aa::ab::ac::ae::af::ag::ah::ai::aj::ak::al::am::an::ao::ap::aq::ar::av::aw::ax::ay::az::aA::aB::aC::aD::aE::aF::aG::aH::aI::aJ::aK::aL::aW::aX::aY::aZ::a0::a1::a3::a4::a5::a6::a7::a8::a9::ba::bb::bc::bd::be::bf::bg::bh::bi::bj::bk::bl::bm::bn::bo::bp::bq::br::bs::bt::bu::bv::bw::bx::bz::bA::bB::bC::bD::bE::bF::bG::bH::bI::bJ::bK::bL::bM::bN::bO::bP::bQ::bR::bS::bT::bU::bV::bW::bX::bY::bZ::b0::b1::b3::b6::b7::b8::ca::cb::cc::cd::ce::cg::ch::ci::cj::ck::cl::cm::cn::co::cp::cq::cr::ct::cv::cw::cx::cy::cz::cA::cB::cC::cD::cE::cF::cG::cH::cI::cJ::cK::cL::cM::cN::cO::cP::cQ::cR::cS::cT::cU::cV::cW::cX::cY::cZ::da::db::dc::dd::de::df::dg::dh::di::dj::dk::dl::dm::dn::dp::dq::dr::ds::dt::du::dv::dw::dx::dy::dz::dA::dB::dC::dD::dE::dF::dG::dH::dI::dJ::dK::dL::dM::dO::dP::dQ::dR::dS::dT::dU::dV::dW::dX::dY::dZ::d0::d1::d2::d3::d4::d5::d6::d7::d8::ea::ec::ed::ee::ef::eg::eh::ei::ej::ek::el::em::en::ep::eq::es::et::eu::ev::ew::ey::ez::eA::eB::eC::eD::eE::eF::eG::eH::eI::eJ::eK::eL::eM::eN::eO::eP::eQ::eR::eS::eT::eU::eV::eW::eX::eY::eZ::e5::e9::fa::fb::fc::fd::fe::ff::fg::fh::fi::fj::fk::fl::fm::fn::fo::fp::fq::fr::fs::ft::fu::fv::fw::fx::fy::fz::fA::fB::fC::fD::fE::fF::fG::fH::fI::fJ::fK::fL::fM::fN::fO::fP::fQ::fR::fS::fT::fU::fV::fY::fZ::[]).toArray, []⟩ W') : Code.wp Try.prog sw66 Q ⟨(v0::mv::(.pointer (some ⟨b2, 0, none⟩))::v3::(.pointer (some ⟨b4, 0, none⟩))::(.pointer (some ⟨b5, 0, none⟩))::(.int .i64 0)::(.bool false)::(.int .i64 0)::(.pointer (some ⟨b9, 0, none⟩))::aM::(.pointer (some ⟨b11, 0, none⟩))::(.pointer (some ⟨b12, 0, none⟩))::(.int .i64 eb)::(.pointer (some ⟨b14, 0, none⟩))::aN::aO::aP::aQ::aR::aS::aT::aU::aV::aa::ab::ac::ae::af::ag::ah::ai::aj::ak::al::am::an::ao::ap::aq::ar::av::aw::ax::ay::az::aA::aB::aC::aD::aE::aF::aG::aH::aI::aJ::aK::aL::aW::aX::aY::aZ::a0::a1::a3::a4::a5::a6::a7::a8::a9::ba::bb::bc::bd::be::bf::bg::bh::bi::bj::bk::bl::bm::bn::bo::bp::bq::br::bs::bt::bu::bv::bw::bx::bz::bA::bB::bC::bD::bE::bF::bG::bH::bI::bJ::bK::bL::bM::bN::bO::bP::bQ::bR::bS::bT::bU::bV::bW::bX::bY::bZ::b0::b1::b3::b6::b7::b8::ca::cb::cc::cd::ce::cg::ch::ci::cj::ck::cl::cm::cn::co::cp::cq::cr::ct::cv::cw::cx::cy::cz::cA::cB::cC::cD::cE::cF::cG::cH::cI::cJ::cK::cL::cM::cN::cO::cP::cQ::cR::cS::cT::cU::cV::cW::cX::cY::cZ::da::db::dc::dd::de::df::dg::dh::di::dj::dk::dl::dm::dn::dp::dq::dr::ds::dt::du::dv::dw::dx::dy::dz::dA::dB::dC::dD::dE::dF::dG::dH::dI::dJ::dK::dL::dM::dO::dP::dQ::dR::dS::dT::dU::dV::dW::dX::dY::dZ::d0::d1::d2::d3::d4::d5::d6::d7::d8::ea::ec::ed::ee::ef::eg::eh::ei::ej::ek::el::em::en::ep::eq::es::et::eu::ev::ew::ey::ez::eA::eB::eC::eD::eE::eF::eG::eH::eI::eJ::eK::eL::eM::eN::eO::eP::eQ::eR::eS::eT::eU::eV::eW::eX::eY::eZ::e5::e9::fa::fb::fc::fd::fe::ff::fg::fh::fi::fj::fk::fl::fm::fn::fo::fp::fq::fr::fs::ft::fu::fv::fw::fx::fy::fz::fA::fB::fC::fD::fE::fF::fG::fH::fI::fJ::fK::fL::fM::fN::fO::fP::fQ::fR::fS::fT::fU::fV::fW::fX::[]).toArray, []⟩ W1 := by
  have hZ1 : rsAt W1 b4 St.zero (.slice none 0 0) := Off.keeps hF hZ (by omega)
  have hY1 : blk4 W1 b5 45 (.bool false) (.int .i64 0) (.int .i64 0) (.int .i64 0) := Off.keeps hF hY (by omega)
  refine fin66 hT hZ1 hY1 hd.1 ?_
  intro fY fZ W' h
  refine hQ fY fZ _ _ _ W' ?_
  rw [hr]
  refine ⟨rfl, rfl, rfl, _, ⟨_, _, _, rfl⟩, ?_, h.toQ2 hF⟩
  refine Off.row (h.o) hk (fun k hk' cs hc => ?_)
  rcases hk' with e | e
  · subst e; exact rs_not hZ1 _ (by decide) _ rfl cs hc
  · subst e
    have h3 := (show W1.heap[_]? = _ from hY1).symm.trans hc
    simp only [Option.some.injEq, Obj.cells.injEq] at h3
    exact absurd h3.2.1 (by decide)
/-- what a switch finds besides -/
structure SX (W : World) (mv : Value) (vs : List Value) (M : List Sg) (s : St) (v : Value) (l : List Fr) (P : Nat) (g : Sg) (u : Value) : Prop where
  hP : P < 4
  hM : Segs W 0 mv vs M
  h5 : M.length ≤ 5
  mg : ∀ g ∈ M, GoodSg g
  hk : rstkAt W v l
  l8 : l.length ≤ 8
  wa : WfI s.a
  gu : ∃ au cu, u = .slice au g.ws.length cu
  seg : seg? M (s.pt P).seg = if g.is then some g else none
theorem SX.ws {W : World} {mv : Value} {vs : List Value} {M : List Sg} {s : St} {v : Value} {l : List Fr} {P : Nat} {g : Sg} {u : Value} (X : SX W mv vs M s v l P g u) : ∀ g ∈ M, g.ws.length ≤ 16 := fun g h => (X.mg g h).ws
theorem SX.h1000 {W : World} {mv : Value} {vs : List Value} {M : List Sg} {s : St} {v : Value} {l : List Fr} {P : Nat} {g : Sg} {u : Value} (X : SX W mv vs M s v l P g u) : M.length ≤ 1000 := Nat.le_trans X.h5 (by decide)
set_option maxHeartbeats 8000000 in
theorem sw_end (W : World) (b2 b4 b5 b9 b11 b12 b14 n' c P : Nat) (ad : Option Addr) (s : St) (n : Int) (g : Sg) (u mv : Value) (v0 v3 aM aN aO aP aQ aR aS aT aU aV aa ab ac ae af ag ah ai aj ak al am an ao ap aq ar av aw ax ay az aA aB aC aD aE aF aG aH aI aJ aK aL aW aX aY aZ a0 a1 a3 a4 a5 a6 a7 a8 a9 ba bb bc bd be bf bg bh bi bj bk bl bm bn bo bp bq br bs bt bu bv bw bx bz bA bB bC bD bE bF bG bH bI bJ bK bL bM bN bO bP bQ bR bS bT bU bV bW bX bY bZ b0 b1 b3 b6 b7 b8 ca cb cc cd ce cg ch ci cj ck cl cm cn co cp cq cr ct cv cw cx cy cz cA cB cC cD cE cF cG cH cI cJ cK cL cM cN cO cP cQ cR cS cT cU cV cW cX cY cZ da db dc dd de df dg dh di dj dk dl dm dn dp dq dr ds dt du dv dw dx dy dz dA dB dC dD dE dF dG dH dI dJ dK dL dM dO dP dQ dR dS dT dU dV dW dX dY dZ d0 d1 d2 d3 d4 d5 d6 d7 d8 ea ec ed ee ef eg eh ei ej ek el em en ep eq es et eu ev ew ey ez eA eB eC eD eE eF eG eH eI eJ eK eL eM eN eO eP eQ eR eS eT eU eV eW eX eY eZ e5 e9 fa fb fc fd fe ff fg fh fi fj fk fl fm fn fo fp fq fr fs ft fu fv fw fx fy fz fA fB fC fD fE fF fG fH fI fJ fK fL fM fN fO fP fQ fR fS fT fU fV fW fX : Value) (Q : Exit → Act → World → Prop) (vs : List Value) (M : List Sg) (l : List Fr) (op : Int) (E : SE W b2 b4 b5 b9 b11 b12 b14 s { s with off := s.off + 1 } (.slice ad n' c) op n P g u) (X : SX W mv vs M s (.slice ad n' c) l P g u) (h0 : 0 ≤ op) (h22 : op < 23) (K : Act → World → Prop) (hK : ∀ a w, Code.wp Try.prog sw66 Q a w → K a w)
    (hQ : ∀ (f3 f4 f5 f6 f7 f8 f9 ga gb gc gd ge gg gh gi gj gk gl gm gn gp gq gr gt gv gw gx gy gz gA gB gC gD gE gF gG gH gI gJ gK gL gM gN gO gP gQ gR gS gT gU gV gW gX gY gZ g0 g1 g3 g4 g5 g7 g8 g9 hm hp hC hD hE hG hH hI hJ hL hN hR hS hU hV hW hX h9 ia ib ic ie ig ih ii ij ik il im io ip iq ir it iu iv iw ix iy iz iA iB iC iD iE iG iH iI iJ iK iL iM iN iO iP iQ iR iS iT iU iV iW iX iY iZ i2 i3 i4 i5 i6 i7 i8 ja jb jc jd je jf jg jh ji jj jk jl jm jn jo jp jq jr js jt ju jv jw jx jy jz jA jB jC jD jE jF jG jH jI jJ jK jL jM jN jO jP jQ jR jS jT jU jV jW jX jY jZ j0 j1 j2 j3 j4 j5 j6 j7 j8 j9 ka kb kc kd ke kf kg kh ki kj kk kl km kn kp kq kr ks kt ku kv kw kx ky kz kA kB kC kD kE kF kG kH kI kJ kK kL kM kN kO kP kQ kR kS kT kU kV kW kX kY kZ k3 k4 k5 k6 k7 k8 k9 la lb lc ld le lf lg lh li lj lk ll lm ln lo lp lq lr ls lu lv lw lx ly lz lA lB lC lD lE lF fY fZ : Value) (x6 x7 x8 : Value) (W' : World), OutR W W' b4 b5 b11 x6 x7 x8 (doR M { s with off := s.off + 1 } l op (P : Int) n) → Q .ret ⟨(v0::mv::(.pointer (some ⟨b2, 0, none⟩))::v3::(.pointer (some ⟨b4, 0, none⟩))::(.pointer (some ⟨b5, 0, none⟩))::x6::x7::x8::(.pointer (some ⟨b9, 0, none⟩))::f3::(.pointer (some ⟨b11, 0, none⟩))::(.pointer (some ⟨b12, 0, none⟩))::(.int .i64 (s.eb (P : Int)))::(.pointer (some ⟨b14, 0, none⟩))::f4::f5::f6::f7::f8::f9::ga::gb::gc::aa::ab::ac::ae::af::ag::ah::ai::aj::ak::al::am::an::ao::ap::aq::ar::av::aw::ax::ay::az::aA::aB::aC::aD::aE::aF::aG::aH::aI::aJ::aK::aL::gd::ge::gg::gh::gi::gj::gk::gl::gm::gn::gp::gq::gr::gt::gv::gw::gx::gy::gz::gA::gB::gC::gD::gE::gF::gG::gH::gI::gJ::gK::gL::gM::gN::gO::gP::gQ::gR::gS::gT::gU::gV::gW::gX::gY::gZ::g0::g1::g3::g4::g5::g7::g8::g9::hm::hp::hC::hD::hE::hG::hH::hI::hJ::hL::hN::hR::hS::hU::hV::hW::hX::h9::ia::ib::ic::ie::ig::ih::ii::ij::ik::il::im::io::ip::iq::ir::it::iu::iv::iw::ix::iy::iz::iA::iB::iC::iD::iE::iG::iH::iI::iJ::iK::iL::iM::iN::iO::iP::iQ::iR::iS::iT::iU::iV::iW::iX::iY::iZ::i2::i3::i4::i5::i6::i7::i8::ja::jb::jc::jd::je::jf::jg::jh::ji::jj::jk::jl::jm::jn::jo::jp::jq::jr::js::jt::ju::jv::jw::jx::jy::jz::jA::jB::jC::jD::jE::jF::jG::jH::jI::jJ::jK::jL::jM::jN::jO::jP::jQ::jR::jS::jT::jU::jV::jW::jX::jY::jZ::j0::j1::j2::j3::j4::j5::j6::j7::j8::j9::ka::kb::kc::kd::ke::kf::kg::kh::ki::kj::kk::kl::km::kn::kp::kq::kr::ks::kt::ku::kv::kw::kx::ky::kz::kA::kB::kC::kD::kE::kF::kG::kH::kI::kJ::kK::kL::kM::kN::kO::kP::kQ::kR::kS::kT::kU::kV::kW::kX::kY::kZ::k3::k4::k5::k6::k7::k8::k9::la::lb::lc::ld::le::lf::lg::lh::li::lj::lk::ll::lm::ln::lo::lp::lq::lr::ls::lu::lv::lw::lx::ly::lz::lA::lB::lC::lD::lE::lF::fY::fZ::[]).toArray, []⟩ W') : Code.wp Try.prog sw (Exit.then K Q) ⟨(v0::mv::(.pointer (some ⟨b2, 0, none⟩))::v3::(.pointer (some ⟨b4, 0, none⟩))::(.pointer (some ⟨b5, 0, none⟩))::(.int .i64 0)::(.bool false)::(.int .i64 0)::(.pointer (some ⟨b9, 0, none⟩))::aM::(.pointer (some ⟨b11, 0, none⟩))::(.pointer (some ⟨b12, 0, none⟩))::(.int .i64 (s.eb (P : Int)))::(.pointer (some ⟨b14, 0, none⟩))::aN::aO::aP::aQ::aR::aS::aT::aU::aV::aa::ab::ac::ae::af::ag::ah::ai::aj::ak::al::am::an::ao::ap::aq::ar::av::aw::ax::ay::az::aA::aB::aC::aD::aE::aF::aG::aH::aI::aJ::aK::aL::aW::aX::aY::aZ::a0::a1::a3::a4::a5::a6::a7::a8::a9::ba::bb::bc::bd::be::bf::bg::bh::bi::bj::bk::bl::bm::bn::bo::bp::bq::br::bs::bt::bu::bv::bw::bx::bz::bA::bB::bC::bD::bE::bF::bG::bH::bI::bJ::bK::bL::bM::bN::bO::bP::bQ::bR::bS::bT::bU::bV::bW::bX::bY::bZ::b0::b1::b3::b6::b7::b8::ca::cb::cc::cd::ce::cg::ch::ci::cj::ck::cl::cm::cn::co::cp::cq::cr::ct::cv::cw::cx::cy::cz::cA::cB::cC::cD::cE::cF::cG::cH::cI::cJ::cK::cL::cM::cN::cO::cP::cQ::cR::cS::cT::cU::cV::cW::cX::cY::cZ::da::db::dc::dd::de::df::dg::dh::di::dj::dk::dl::dm::dn::dp::dq::dr::ds::dt::du::dv::dw::dx::dy::dz::dA::dB::dC::dD::dE::dF::dG::dH::dI::dJ::dK::dL::dM::dO::dP::dQ::dR::dS::dT::dU::dV::dW::dX::dY::dZ::d0::d1::d2::d3::d4::d5::d6::d7::d8::ea::ec::ed::ee::ef::eg::eh::ei::ej::ek::el::em::en::ep::eq::es::et::eu::ev::ew::ey::ez::eA::eB::eC::eD::eE::eF::eG::eH::eI::eJ::eK::eL::eM::eN::eO::eP::eQ::eR::eS::eT::eU::eV::eW::eX::eY::eZ::e5::e9::fa::fb::fc::fd::fe::ff::fg::fh::fi::fj::fk::fl::fm::fn::fo::fp::fq::fr::fs::ft::fu::fv::fw::fx::fy::fz::fA::fB::fC::fD::fE::fF::fG::fH::fI::fJ::fK::fL::fM::fN::fO::fP::fQ::fR::fS::fT::fU::fV::fW::fX::[]).toArray, []⟩ W := by
  have hd2 : b4 < b5 ∧ b5 < b11 := by have := E.d; omega
  have hnl : n' = l.length := by
    obtain ⟨a', c', hq, _, _⟩ := row_shape X.hk
    injection hq
  rcases (show op = 0 ∨ op = 1 ∨ op = 2 ∨ op = 3 ∨ op = 12 ∨ op = 13 ∨ op = 14 ∨ op = 15 ∨ op = 16 ∨ op = 17 ∨ op = 18 ∨ op = 19 ∨ 4 ≤ op ∧ op ≤ 11 ∨ op = 22 ∨ op = 20 ∨ op = 21 by omega) with rfl | rfl | rfl | rfl | rfl | rfl | rfl | rfl | rfl | rfl | rfl | rfl | ho | rfl | rfl | rfl
  · have hdo : doR M { s with off := s.off + 1 } l (0) (P : Int) n = .ok ⟨{ ({ s with off := s.off + 1 } : St) with hal := true }, l, false, 0, none⟩ := rfl
    rw [hdo] at hQ
    refine sw0 (E := E) (hQ := ?_)
    iterate 286 intro _
    intro W1 T
    refine hK _ _ ?_
    exact fin_ok (r := ⟨{ ({ s with off := s.off + 1 } : St) with hal := true }, l, false, 0, none⟩) (hT := T.1) (hF := T.2) (hZ := E.z4) (hY := E.z5) (hd := hd2) (hk := (Off.row T.2 X.hk (rs_not E.t11 _ (by decide)))) (hr := rfl) (hQ := fun a b x6 x7 x8 W' h => by apply hQ; exact h)
  · cases hrd : rdR M s (P : Int) n with
    | error er =>
      have hdo : doR M { s with off := s.off + 1 } l (1) (P : Int) n = .error er := (by rw [show doR M { s with off := s.off + 1 } l (1) (P : Int) n = (match rdR M { s with off := s.off + 1 } (P : Int) n with | .error e => .error e | .ok (x, g) => .ok ⟨{ ({ s with off := s.off + 1 } : St) with a := x }, l, false, 0, none⟩) from rfl, rd_off, hrd])
      rw [hdo] at hQ
      refine sw1e (E := E) (hP := X.hP) (hM := X.hM) (h5 := X.h1000) (hws := X.ws) (her := rd_err hrd) (hrd := hrd) (hQ := ?_)
      iterate 286 intro _
      intro W' h
      show Q _ _ _
      apply hQ
      exact ⟨rfl, rfl, rfl, h.toQ⟩
    | ok xg =>
      obtain ⟨x, g2⟩ := xg
      have hdo : doR M { s with off := s.off + 1 } l (1) (P : Int) n = .ok ⟨{ ({ s with off := s.off + 1 } : St) with a := x }, l, false, 0, none⟩ := (by rw [show doR M { s with off := s.off + 1 } l (1) (P : Int) n = (match rdR M { s with off := s.off + 1 } (P : Int) n with | .error e => .error e | .ok (x, g) => .ok ⟨{ ({ s with off := s.off + 1 } : St) with a := x }, l, false, 0, none⟩) from rfl, rd_off, hrd])
      rw [hdo] at hQ
      refine sw1 (E := E) (hP := X.hP) (hM := X.hM) (h5 := X.h1000) (hws := X.ws) (hrd := hrd) (hQ := ?_)
      iterate 286 intro _
      intro W1 T
      refine hK _ _ ?_
      exact fin_ok (r := ⟨{ ({ s with off := s.off + 1 } : St) with a := x }, l, false, 0, none⟩) (hT := T.1) (hF := T.2) (hZ := E.z4) (hY := E.z5) (hd := hd2) (hk := (Off.row T.2 X.hk (rs_not E.t11 _ (by decide)))) (hr := rfl) (hQ := fun a b x6 x7 x8 W' h => by apply hQ; exact h)
  · obtain ⟨au, cu, hu⟩ := X.gu
    cases his : g.is with
    | false =>
      have hw : wrR M s (P : Int) n = .error 35 := (by unfold wrR; rw [Int.toNat_natCast, X.seg, his]; rfl)
      have hdo : doR M { s with off := s.off + 1 } l (2) (P : Int) n = .error 35 := (by rw [show doR M { s with off := s.off + 1 } l (2) (P : Int) n = (match wrR M { s with off := s.off + 1 } (P : Int) n with | .error e => .error e | .ok (k, o) => .ok ⟨{ s with off := s.off + 1 }, l, false, 0, some (k, o, s.a)⟩) from rfl, wr_off, hw])
      rw [hdo] at hQ
      refine sw2a (E := E) (hg := his) (hQ := ?_)
      iterate 286 intro _
      intro W' h
      show Q _ _ _
      apply hQ
      exact ⟨rfl, rfl, rfl, h.toQ⟩
    | true =>
      have hseg := X.seg
      rw [his, if_pos rfl] at hseg
      cases hh : g.has 2 with
      | false =>
        have hw : wrR M s (P : Int) n = .error 32 := (by unfold wrR; rw [Int.toNat_natCast, hseg]; simp [hh])
        have hdo : doR M { s with off := s.off + 1 } l (2) (P : Int) n = .error 32 := (by rw [show doR M { s with off := s.off + 1 } l (2) (P : Int) n = (match wrR M { s with off := s.off + 1 } (P : Int) n with | .error e => .error e | .ok (k, o) => .ok ⟨{ s with off := s.off + 1 }, l, false, 0, some (k, o, s.a)⟩) from rfl, wr_off, hw])
        rw [hdo] at hQ
        refine sw2b (E := E) (hg := his) (hh := hh) (hQ := ?_)
        iterate 286 intro _
        intro W' h
        show Q _ _ _
        apply hQ
        exact ⟨rfl, rfl, rfl, h.toQ⟩
      | true =>
        cases hmr : mayRead g.r1 (s.eb (P : Int)) with
        | false =>
          have hw : wrR M s (P : Int) n = .error 32 := (by unfold wrR; rw [Int.toNat_natCast, hseg]; simp [hh, hmr])
          have hdo : doR M { s with off := s.off + 1 } l (2) (P : Int) n = .error 32 := (by rw [show doR M { s with off := s.off + 1 } l (2) (P : Int) n = (match wrR M { s with off := s.off + 1 } (P : Int) n with | .error e => .error e | .ok (k, o) => .ok ⟨{ s with off := s.off + 1 }, l, false, 0, some (k, o, s.a)⟩) from rfl, wr_off, hw])
          rw [hdo] at hQ
          refine sw2c (E := E) (hg := his) (hh := hh) (hmr := hmr) (hQ := ?_)
          iterate 286 intro _
          intro W' h
          show Q _ _ _
          apply hQ
          exact ⟨rfl, rfl, rfl, h.toQ⟩
        | true =>
          have heo := eo_wrap s P n
          by_cases hi : 0 ≤ s.eo (P : Int) n ∧ s.eo (P : Int) n < g.ws.length
          · have hw : wrR M s (P : Int) n = .ok ((s.pt P).seg, s.eo (P : Int) n) := (by unfold wrR; rw [Int.toNat_natCast, hseg]; simp [hh, hmr, hi])
            obtain ⟨O, hO⟩ : ∃ O : Nat, s.eo (P : Int) n = (O : Int) := ⟨(s.eo (P : Int) n).toNat, by omega⟩
            rw [hO] at hw
            have hdo : doR M { s with off := s.off + 1 } l (2) (P : Int) n = .ok ⟨{ s with off := s.off + 1 }, l, false, 0, some ((s.pt P).seg, (O : Int), s.a)⟩ := (by rw [show doR M { s with off := s.off + 1 } l (2) (P : Int) n = (match wrR M { s with off := s.off + 1 } (P : Int) n with | .error e => .error e | .ok (k, o) => .ok ⟨{ s with off := s.off + 1 }, l, false, 0, some (k, o, s.a)⟩) from rfl, wr_off, hw])
            rw [hdo] at hQ
            refine sw2 (E := E) (hu := hu) (hg := his) (hh := hh) (hmr := hmr) (hO := heo.symm.trans hO) (hl := by omega) (hQ := ?_)
            iterate 286 intro _
            intro W' h
            show Q _ _ _
            apply hQ
            exact ⟨rfl, rfl, rfl, _, ⟨_, _, _, rfl⟩, OutP.stk E h X.hk, h.toQ⟩
          · have hw : wrR M s (P : Int) n = .error 35 := (by unfold wrR; rw [Int.toNat_natCast, hseg]; simp only [hh, hmr, Bool.and_self, Bool.true_eq_false, if_false]; rw [if_neg hi])
            by_cases hlo : wrap64 ((s.pt P).off + n) < 0
            · have hdo : doR M { s with off := s.off + 1 } l (2) (P : Int) n = .error 35 := (by rw [show doR M { s with off := s.off + 1 } l (2) (P : Int) n = (match wrR M { s with off := s.off + 1 } (P : Int) n with | .error e => .error e | .ok (k, o) => .ok ⟨{ s with off := s.off + 1 }, l, false, 0, some (k, o, s.a)⟩) from rfl, wr_off, hw])
              rw [hdo] at hQ
              refine sw2d (E := E) (hu := hu) (hg := his) (hh := hh) (hmr := hmr) (hoff := hlo) (hQ := ?_)
              iterate 286 intro _
              intro W' h
              show Q _ _ _
              apply hQ
              exact ⟨rfl, rfl, rfl, h.toQ⟩
            · have hdo : doR M { s with off := s.off + 1 } l (2) (P : Int) n = .error 35 := (by rw [show doR M { s with off := s.off + 1 } l (2) (P : Int) n = (match wrR M { s with off := s.off + 1 } (P : Int) n with | .error e => .error e | .ok (k, o) => .ok ⟨{ s with off := s.off + 1 }, l, false, 0, some (k, o, s.a)⟩) from rfl, wr_off, hw])
              rw [hdo] at hQ
              refine sw2e (E := E) (hu := hu) (hg := his) (hh := hh) (hmr := hmr) (hoff := hlo) (hle := by rw [heo] at hi; omega) (hQ := ?_)
              iterate 286 intro _
              intro W' h
              show Q _ _ _
              apply hQ
              exact ⟨rfl, rfl, rfl, h.toQ⟩
  · have hdo : doR M { s with off := s.off + 1 } l (3) (P : Int) n = .ok ⟨{ ({ s with off := s.off + 1 } : St) with a := n }, l, false, 0, none⟩ := rfl
    rw [hdo] at hQ
    refine sw3 (E := E) (hQ := ?_)
    iterate 286 intro _
    intro W1 T
    refine hK _ _ ?_
    exact fin_ok (r := ⟨{ ({ s with off := s.off + 1 } : St) with a := n }, l, false, 0, none⟩) (hT := T.1) (hF := T.2) (hZ := E.z4) (hY := E.z5) (hd := hd2) (hk := (Off.row T.2 X.hk (rs_not E.t11 _ (by decide)))) (hr := rfl) (hQ := fun a b x6 x7 x8 W' h => by apply hQ; exact h)
  · have hdo : doR M { s with off := s.off + 1 } l (12) (P : Int) n = .ok ⟨{ ({ s with off := s.off + 1 } : St) with a := fromInt s.a }, l, false, 0, none⟩ := rfl
    rw [hdo] at hQ
    refine sw12 (E := E) (hQ := ?_)
    iterate 286 intro _
    intro W1 T
    refine hK _ _ ?_
    exact fin_ok (r := ⟨{ ({ s with off := s.off + 1 } : St) with a := fromInt s.a }, l, false, 0, none⟩) (hT := T.1) (hF := T.2) (hZ := E.z4) (hY := E.z5) (hd := hd2) (hk := (Off.row T.2 X.hk (rs_not E.t11 _ (by decide)))) (hr := rfl) (hQ := fun a b x6 x7 x8 W' h => by apply hQ; exact h)
  · by_cases he : toIntE s.a = 0
    · have hdo : doR M { s with off := s.off + 1 } l (13) (P : Int) n = .ok ⟨{ ({ s with off := s.off + 1 } : St) with a := toInt s.a }, l, false, 0, none⟩ := (by unfold doR; simp [he])
      rw [hdo] at hQ
      refine sw13 (E := E) (wa := X.wa) (he := he) (hQ := ?_)
      iterate 286 intro _
      intro W1 T
      refine hK _ _ ?_
      exact fin_ok (r := ⟨{ ({ s with off := s.off + 1 } : St) with a := toInt s.a }, l, false, 0, none⟩) (hT := T.1) (hF := T.2) (hZ := E.z4) (hY := E.z5) (hd := hd2) (hk := (Off.row T.2 X.hk (rs_not E.t11 _ (by decide)))) (hr := rfl) (hQ := fun a b x6 x7 x8 W' h => by apply hQ; exact h)
    · have hdo : doR M { s with off := s.off + 1 } l (13) (P : Int) n = .error 36 := (by unfold doR; simp [he])
      rw [hdo] at hQ
      refine sw13e (E := E) (wa := X.wa) (he := he) (hQ := ?_)
      iterate 286 intro _
      intro W' h
      show Q _ _ _
      apply hQ
      exact ⟨rfl, rfl, rfl, h.toQ⟩
  · have hdo : doR M { s with off := s.off + 1 } l (14) (P : Int) n = .ok ⟨{ ({ s with off := s.off + 1 } : St) with off := n }, l, false, 0, none⟩ := rfl
    rw [hdo] at hQ
    refine sw14 (E := E) (hQ := ?_)
    iterate 286 intro _
    intro W1 T
    refine hK _ _ ?_
    exact fin_ok (r := ⟨{ ({ s with off := s.off + 1 } : St) with off := n }, l, false, 0, none⟩) (hT := T.1) (hF := T.2) (hZ := E.z4) (hY := E.z5) (hd := hd2) (hk := (Off.row T.2 X.hk (rs_not E.t11 _ (by decide)))) (hr := rfl) (hQ := fun a b x6 x7 x8 W' h => by apply hQ; exact h)
  · by_cases ha : s.a = 0
    · have hdo : doR M { s with off := s.off + 1 } l (15) (P : Int) n = .ok ⟨{ ({ s with off := s.off + 1 } : St) with off := n }, l, false, 0, none⟩ := (by unfold doR; simp [jmpR, ha])
      rw [hdo] at hQ
      refine sw15 (E := E) (ha := ha) (hQ := ?_)
      iterate 286 intro _
      intro W1 T
      refine hK _ _ ?_
      exact fin_ok (r := ⟨{ ({ s with off := s.off + 1 } : St) with off := n }, l, false, 0, none⟩) (hT := T.1) (hF := T.2) (hZ := E.z4) (hY := E.z5) (hd := hd2) (hk := (Off.row T.2 X.hk (rs_not E.t11 _ (by decide)))) (hr := rfl) (hQ := fun a b x6 x7 x8 W' h => by apply hQ; exact h)
    · have hdo : doR M { s with off := s.off + 1 } l (15) (P : Int) n = .ok ⟨{ s with off := s.off + 1 }, l, false, 0, none⟩ := (by unfold doR; simp [jmpR, ha])
      rw [hdo] at hQ
      refine sw15n (E := E) (ha := ha) (hQ := ?_)
      iterate 286 intro _
      intro W1 T
      refine hK _ _ ?_
      exact fin_ok (r := ⟨{ s with off := s.off + 1 }, l, false, 0, none⟩) (hT := T.1) (hF := T.2) (hZ := E.z4) (hY := E.z5) (hd := hd2) (hk := (Off.row T.2 X.hk (rs_not E.t11 _ (by decide)))) (hr := rfl) (hQ := fun a b x6 x7 x8 W' h => by apply hQ; exact h)
  · by_cases ha : s.a < 0
    · have hdo : doR M { s with off := s.off + 1 } l (16) (P : Int) n = .ok ⟨{ ({ s with off := s.off + 1 } : St) with off := n }, l, false, 0, none⟩ := (by unfold doR; simp [jmpR, ha])
      rw [hdo] at hQ
      refine sw16 (E := E) (ha := ha) (hQ := ?_)
      iterate 286 intro _
      intro W1 T
      refine hK _ _ ?_
      exact fin_ok (r := ⟨{ ({ s with off := s.off + 1 } : St) with off := n }, l, false, 0, none⟩) (hT := T.1) (hF := T.2) (hZ := E.z4) (hY := E.z5) (hd := hd2) (hk := (Off.row T.2 X.hk (rs_not E.t11 _ (by decide)))) (hr := rfl) (hQ := fun a b x6 x7 x8 W' h => by apply hQ; exact h)
    · have hdo : doR M { s with off := s.off + 1 } l (16) (P : Int) n = .ok ⟨{ s with off := s.off + 1 }, l, false, 0, none⟩ := (by unfold doR; simp [jmpR, ha])
      rw [hdo] at hQ
      refine sw16n (E := E) (ha := ha) (hQ := ?_)
      iterate 286 intro _
      intro W1 T
      refine hK _ _ ?_
      exact fin_ok (r := ⟨{ s with off := s.off + 1 }, l, false, 0, none⟩) (hT := T.1) (hF := T.2) (hZ := E.z4) (hY := E.z5) (hd := hd2) (hk := (Off.row T.2 X.hk (rs_not E.t11 _ (by decide)))) (hr := rfl) (hQ := fun a b x6 x7 x8 W' h => by apply hQ; exact h)
  · have hdo : doR M { s with off := s.off + 1 } l (17) (P : Int) n = .ok ⟨(St.setP { s with off := s.off + 1 } P ⟨pSeg s.a, pOff s.a, max s.ring (pRing s.a)⟩), l, false, 0, none⟩ := rfl
    rw [hdo] at hQ
    refine sw17 (E := E) (hP := X.hP) (hQ := ?_)
    iterate 286 intro _
    intro W1 T
    refine hK _ _ ?_
    exact fin_ok (r := ⟨(St.setP { s with off := s.off + 1 } P ⟨pSeg s.a, pOff s.a, max s.ring (pRing s.a)⟩), l, false, 0, none⟩) (hT := T.1) (hF := T.2) (hZ := E.z4) (hY := E.z5) (hd := hd2) (hk := (Off.row T.2 X.hk (rs_not E.t11 _ (by decide)))) (hr := rfl) (hQ := fun a b x6 x7 x8 W' h => by apply hQ; exact h)
  · cases hrd : rdR M s (P : Int) n with
    | error er =>
      have hdo : doR M { s with off := s.off + 1 } l (18) (P : Int) n = .error er := (by rw [show doR M { s with off := s.off + 1 } l (18) (P : Int) n = (match rdR M { s with off := s.off + 1 } (P : Int) n with | .error e => .error e | .ok (x, g) => .ok ⟨St.setP { s with off := s.off + 1 } P ⟨pSeg x, pOff x, max (pRing x) (max g.r1 (St.eb { s with off := s.off + 1 } (P : Int)))⟩, l, false, 0, none⟩) from rfl, rd_off, hrd])
      rw [hdo] at hQ
      refine sw18e (E := E) (hP := X.hP) (hM := X.hM) (h5 := X.h1000) (hws := X.ws) (her := rd_err hrd) (hrd := hrd) (hQ := ?_)
      iterate 286 intro _
      intro W' h
      show Q _ _ _
      apply hQ
      exact ⟨rfl, rfl, rfl, h.toQ⟩
    | ok xg =>
      obtain ⟨x, g2⟩ := xg
      have hg2 : g2 = g := rd_seg hrd X.seg
      have heb : St.eb { s with off := s.off + 1 } (P : Int) = s.eb (P : Int) := (by unfold St.eb; rw [pt_offS])
      subst hg2
      have hdo : doR M { s with off := s.off + 1 } l (18) (P : Int) n = .ok ⟨(St.setP { s with off := s.off + 1 } P ⟨pSeg x, pOff x, max (pRing x) (max g2.r1 (s.eb (P : Int)))⟩), l, false, 0, none⟩ := (by rw [show doR M { s with off := s.off + 1 } l (18) (P : Int) n = (match rdR M { s with off := s.off + 1 } (P : Int) n with | .error e => .error e | .ok (x, g) => .ok ⟨St.setP { s with off := s.off + 1 } P ⟨pSeg x, pOff x, max (pRing x) (max g.r1 (St.eb { s with off := s.off + 1 } (P : Int)))⟩, l, false, 0, none⟩) from rfl, rd_off, hrd, heb])
      rw [hdo] at hQ
      refine sw18 (E := E) (hP := X.hP) (hM := X.hM) (h5 := X.h1000) (hws := X.ws) (hrd := hrd) (hQ := ?_)
      iterate 286 intro _
      intro W1 T
      refine hK _ _ ?_
      exact fin_ok (r := ⟨(St.setP { s with off := s.off + 1 } P ⟨pSeg x, pOff x, max (pRing x) (max g2.r1 (s.eb (P : Int)))⟩), l, false, 0, none⟩) (hT := T.1) (hF := T.2) (hZ := E.z4) (hY := E.z5) (hd := hd2) (hk := (Off.row T.2 X.hk (rs_not E.t11 _ (by decide)))) (hr := rfl) (hQ := fun a b x6 x7 x8 W' h => by apply hQ; exact h)
  · have hdo : doR M { s with off := s.off + 1 } l (19) (P : Int) n = .ok ⟨{ ({ s with off := s.off + 1 } : St) with a := encP (s.pt P).seg (s.pt P).off (s.pt P).ring }, l, false, 0, none⟩ := (by show Except.ok _ = _; simp only [pt_offS, Int.toNat_natCast])
    rw [hdo] at hQ
    refine sw19 (E := E)  (hQ := ?_)
    iterate 286 intro _
    intro W1 T
    refine hK _ _ ?_
    exact fin_ok (r := ⟨{ ({ s with off := s.off + 1 } : St) with a := encP (s.pt P).seg (s.pt P).off (s.pt P).ring }, l, false, 0, none⟩) (hT := T.1) (hF := T.2) (hZ := E.z4) (hY := E.z5) (hd := hd2) (hk := (Off.row T.2 X.hk (rs_not E.t11 _ (by decide)))) (hr := rfl) (hQ := fun a b x6 x7 x8 W' h => by apply hQ; exact h)
  · cases hrd : rdR M s (P : Int) n with
    | error er =>
      have hdo : doR M { s with off := s.off + 1 } l (op) (P : Int) n = .error er := (by unfold doR; rw [if_neg (by omega), if_neg (by omega), if_pos ho, rd_off, hrd])
      rw [hdo] at hQ
      refine swAe (E := E) (hP := X.hP) (hM := X.hM) (h5 := X.h1000) (hws := X.ws) (ho := ho) (her := rd_err hrd) (hrd := hrd) (hQ := ?_)
      iterate 286 intro _
      intro W' h
      show Q _ _ _
      apply hQ
      exact ⟨rfl, rfl, rfl, h.toQ⟩
    | ok xg =>
      obtain ⟨x, g2⟩ := xg
      have hdo : doR M { s with off := s.off + 1 } l (op) (P : Int) n = .ok ⟨{ ({ s with off := s.off + 1 } : St) with a := arR op s.a x }, l, false, 0, none⟩ := (by unfold doR; rw [if_neg (by omega), if_neg (by omega), if_pos ho, rd_off, hrd])
      rw [hdo] at hQ
      refine swA (E := E) (hP := X.hP) (hM := X.hM) (h5 := X.h1000) (hws := X.ws) (ho := ho) (hrd := hrd) (hQ := ?_)
      iterate 286 intro _
      intro W1 T
      refine hK _ _ ?_
      exact fin_ok (r := ⟨{ ({ s with off := s.off + 1 } : St) with a := arR op s.a x }, l, false, 0, none⟩) (hT := T.1) (hF := T.2) (hZ := E.z4) (hY := E.z5) (hd := hd2) (hk := (Off.row T.2 X.hk (rs_not E.t11 _ (by decide)))) (hr := rfl) (hQ := fun a b x6 x7 x8 W' h => by apply hQ; exact h)
  · have hdo : doR M { s with off := s.off + 1 } l (22) (P : Int) n = .ok ⟨{ s with off := s.off + 1 }, l, true, s.a, none⟩ := rfl
    rw [hdo] at hQ
    refine sw22 (E := E)  (hQ := ?_)
    iterate 286 intro _
    intro fY fZ W' h
    show Q _ _ _
    apply hQ
    exact ⟨rfl, rfl, rfl, _, ⟨_, _, _, rfl⟩, OutP.stk E h X.hk, h.toQ⟩
  · obtain ⟨au, cu, hu⟩ := X.gu
    subst hu
    have heo : St.eo { s with off := s.off + 1 } (P : Int) n = wrap64 ((s.pt P).off + n) := (by rw [eo_wrap, pt_offS])
    have heb : St.eb { s with off := s.off + 1 } (P : Int) = s.eb (P : Int) := (by unfold St.eb; rw [pt_offS])
    cases his : g.is with
    | false =>
      have hw : caR M { s with off := s.off + 1 } l (P : Int) n = .error 35 := (by unfold caR; rw [Int.toNat_natCast, pt_offS, X.seg, his]; rfl)
      have hdo : doR M { s with off := s.off + 1 } l (20) (P : Int) n = .error 35 := (by rw [show doR M { s with off := s.off + 1 } l (20) (P : Int) n = (match caR M { s with off := s.off + 1 } l (P : Int) n with | .error e => .error e | .ok (s', l') => .ok ⟨s', l', false, 0, none⟩) from rfl, hw])
      rw [hdo] at hQ
      refine sw20e (E := E) (hu := rfl) (her := by decide) (hc := c_rcall_35 W s _ ad n' c g au cu (s.pt P) 20 (P : Int) n (s.eb (P : Int)) his) (hQ := ?_)
      iterate 286 intro _
      intro W' h
      show Q _ _ _
      apply hQ
      exact ⟨rfl, rfl, rfl, h⟩
    | true =>
      have hseg := X.seg
      rw [his, if_pos rfl] at hseg
      have hgd := X.mg g (seg_mem hseg)
      cases hh : g.has 4 with
      | false =>
        have hw : caR M { s with off := s.off + 1 } l (P : Int) n = .error 33 := (by unfold caR; rw [Int.toNat_natCast, pt_offS, hseg]; simp only [hh, if_true])
        have hdo : doR M { s with off := s.off + 1 } l (20) (P : Int) n = .error 33 := (by rw [show doR M { s with off := s.off + 1 } l (20) (P : Int) n = (match caR M { s with off := s.off + 1 } l (P : Int) n with | .error e => .error e | .ok (s', l') => .ok ⟨s', l', false, 0, none⟩) from rfl, hw])
        rw [hdo] at hQ
        refine sw20e (E := E) (hu := rfl) (her := by decide) (hc := c_rcall_33 W s _ ad n' c g au cu (s.pt P) 20 (P : Int) n (s.eb (P : Int)) his hh) (hQ := ?_)
        iterate 286 intro _
        intro W' h
        show Q _ _ _
        apply hQ
        exact ⟨rfl, rfl, rfl, h⟩
      | true =>
        by_cases he : callE g.r1 g.r2 g.r3 g.g (wrap64 ((s.pt P).off + n)) (s.eb (P : Int)) = 0
        · have hpos : 0 ≤ wrap64 ((s.pt P).off + n) := callE_pos he
          by_cases hle : (g.ws.length : Int) ≤ wrap64 ((s.pt P).off + n)
          · have hw : caR M { s with off := s.off + 1 } l (P : Int) n = .error 35 := (by unfold caR; rw [Int.toNat_natCast, pt_offS, hseg]; simp only [hh, heo, heb, he, Bool.true_eq_false, if_false, ne_eq, not_true_eq_false]; rw [if_pos (by omega)])
            have hdo : doR M { s with off := s.off + 1 } l (20) (P : Int) n = .error 35 := (by rw [show doR M { s with off := s.off + 1 } l (20) (P : Int) n = (match caR M { s with off := s.off + 1 } l (P : Int) n with | .error e => .error e | .ok (s', l') => .ok ⟨s', l', false, 0, none⟩) from rfl, hw])
            rw [hdo] at hQ
            refine sw20e (E := E) (hu := rfl) (her := by decide) (hc := c_rcall_35b W s _ ad n' c g au cu (s.pt P) 20 (P : Int) n (s.eb (P : Int)) his hh hgd.b hgd.c he hle) (hQ := ?_)
            iterate 286 intro _
            intro W' h
            show Q _ _ _
            apply hQ
            exact ⟨rfl, rfl, rfl, h⟩
          · by_cases h8 : 8 ≤ l.length
            · have hw : caR M { s with off := s.off + 1 } l (P : Int) n = .error 37 := (by unfold caR; rw [Int.toNat_natCast, pt_offS, hseg]; simp only [hh, heo, heb, he, Bool.true_eq_false, if_false, ne_eq, not_true_eq_false]; rw [if_neg (by omega), if_pos h8])
              have hdo : doR M { s with off := s.off + 1 } l (20) (P : Int) n = .error 37 := (by rw [show doR M { s with off := s.off + 1 } l (20) (P : Int) n = (match caR M { s with off := s.off + 1 } l (P : Int) n with | .error e => .error e | .ok (s', l') => .ok ⟨s', l', false, 0, none⟩) from rfl, hw])
              rw [hdo] at hQ
              refine sw20e (E := E) (hu := rfl) (her := by decide) (hc := c_rcall_37 W s _ ad n' c g au cu (s.pt P) 20 (P : Int) n (s.eb (P : Int)) his hh hgd.b hgd.c he hle (by omega)) (hQ := ?_)
              iterate 286 intro _
              intro W' h
              show Q _ _ _
              apply hQ
              exact ⟨rfl, rfl, rfl, h⟩
            · have hw : caR M { s with off := s.off + 1 } l (P : Int) n = .ok ((St.raise { ({ s with off := s.off + 1 } : St) with seg := (s.pt P).seg, off := wrap64 ((s.pt P).off + n), ring := callTo g.r1 g.r2 g.r3 g.g (wrap64 ((s.pt P).off + n)) (s.eb (P : Int)) } s.ring), (l ++ [⟨s.seg, s.off + 1, s.ring⟩])) := (by unfold caR; rw [Int.toNat_natCast, pt_offS, hseg]; simp only [hh, heo, heb, he, Bool.true_eq_false, if_false, ne_eq, not_true_eq_false]; rw [if_neg (by omega), if_neg h8]; rfl)
              rcases X.hk.2 with ⟨e, e2⟩ | ⟨gs, cap, cur, e, hrest⟩
              · injection e with e1 e3 e4
                subst e1 e3 e4
                have hl0 : l = [] := (by cases l with | nil => rfl | cons f l => simp at hnl)
                have hdo : doR M { s with off := s.off + 1 } l (20) (P : Int) n = .ok ⟨(St.raise { ({ s with off := s.off + 1 } : St) with seg := (s.pt P).seg, off := wrap64 ((s.pt P).off + n), ring := callTo g.r1 g.r2 g.r3 g.g (wrap64 ((s.pt P).off + n)) (s.eb (P : Int)) } s.ring), (l ++ [⟨s.seg, s.off + 1, s.ring⟩]), false, 0, none⟩ := (by rw [show doR M { s with off := s.off + 1 } l (20) (P : Int) n = (match caR M { s with off := s.off + 1 } l (P : Int) n with | .error e => .error e | .ok (s', l') => .ok ⟨s', l', false, 0, none⟩) from rfl, hw])
                rw [hdo] at hQ
                refine sw20 (E := E) (hu := rfl) (hc := c_rcall_ok0 W s _ g au cu (s.pt P) 20 (P : Int) n (s.eb (P : Int)) l X.hk hl0 (by omega) his hh hgd.b hgd.c he hle) (hQ := ?_)
                iterate 286 intro _
                intro W1 v T hv
                obtain ⟨ad2, n2, c2, rfl⟩ := hv
                refine hK _ _ ?_
                exact fin_ok (r := ⟨(St.raise { ({ s with off := s.off + 1 } : St) with seg := (s.pt P).seg, off := wrap64 ((s.pt P).off + n), ring := callTo g.r1 g.r2 g.r3 g.g (wrap64 ((s.pt P).off + n)) (s.eb (P : Int)) } s.ring), (l ++ [⟨s.seg, s.off + 1, s.ring⟩]), false, 0, none⟩) (hT := T.1) (hF := T.2.1) (hZ := E.z4) (hY := E.z5) (hd := hd2) (hk := T.2.2) (hr := rfl) (hQ := fun a b x6 x7 x8 W' h => by apply hQ; exact h)
              · injection e with e1 e3 e4
                subst e1 e3 e4
                have hdo : doR M { s with off := s.off + 1 } l (20) (P : Int) n = .ok ⟨(St.raise { ({ s with off := s.off + 1 } : St) with seg := (s.pt P).seg, off := wrap64 ((s.pt P).off + n), ring := callTo g.r1 g.r2 g.r3 g.g (wrap64 ((s.pt P).off + n)) (s.eb (P : Int)) } s.ring), (l ++ [⟨s.seg, s.off + 1, s.ring⟩]), false, 0, none⟩ := (by rw [show doR M { s with off := s.off + 1 } l (20) (P : Int) n = (match caR M { s with off := s.off + 1 } l (P : Int) n with | .error e => .error e | .ok (s', l') => .ok ⟨s', l', false, 0, none⟩) from rfl, hw])
                rw [hdo] at hQ
                refine sw20 (E := E) (hu := rfl) (hc := c_rcall_ok1 W s _ gs _ g au cu (s.pt P) 20 (P : Int) n (s.eb (P : Int)) l X.hk (by omega) his hh hgd.b hgd.c he hle) (hQ := ?_)
                iterate 286 intro _
                intro W1 v T hv
                obtain ⟨ad2, n2, c2, rfl⟩ := hv
                refine hK _ _ ?_
                exact fin_ok (r := ⟨(St.raise { ({ s with off := s.off + 1 } : St) with seg := (s.pt P).seg, off := wrap64 ((s.pt P).off + n), ring := callTo g.r1 g.r2 g.r3 g.g (wrap64 ((s.pt P).off + n)) (s.eb (P : Int)) } s.ring), (l ++ [⟨s.seg, s.off + 1, s.ring⟩]), false, 0, none⟩) (hT := T.1) (hF := T.2.1) (hZ := E.z4) (hY := E.z5) (hd := hd2) (hk := T.2.2) (hr := rfl) (hQ := fun a b x6 x7 x8 W' h => by apply hQ; exact h)
        · have hw : caR M { s with off := s.off + 1 } l (P : Int) n = .error 34 := (by unfold caR; rw [Int.toNat_natCast, pt_offS, hseg]; simp only [hh, heo, heb, Bool.true_eq_false, if_false]; rw [if_pos he])
          have hdo : doR M { s with off := s.off + 1 } l (20) (P : Int) n = .error 34 := (by rw [show doR M { s with off := s.off + 1 } l (20) (P : Int) n = (match caR M { s with off := s.off + 1 } l (P : Int) n with | .error e => .error e | .ok (s', l') => .ok ⟨s', l', false, 0, none⟩) from rfl, hw])
          rw [hdo] at hQ
          refine sw20e (E := E) (hu := rfl) (her := by decide) (hc := c_rcall_34 W s _ ad n' c g au cu (s.pt P) 20 (P : Int) n (s.eb (P : Int)) his hh hgd.b hgd.c he) (hQ := ?_)
          iterate 286 intro _
          intro W' h
          show Q _ _ _
          apply hQ
          exact ⟨rfl, rfl, rfl, h⟩
  · rcases List.eq_nil_or_concat l with hl | ⟨init, f, hl⟩
    · have hw : reR { s with off := s.off + 1 } l = .error 37 := (by rw [hl]; rfl)
      have hdo : doR M { s with off := s.off + 1 } l (21) (P : Int) n = .error 37 := (by rw [show doR M { s with off := s.off + 1 } l (21) (P : Int) n = (match reR { s with off := s.off + 1 } l with | .error e => .error e | .ok (s', l') => .ok ⟨s', l', false, 0, none⟩) from rfl, hw])
      rw [hdo] at hQ
      refine sw21a (E := E) (h0 := by rw [hnl, hl]; rfl) (hQ := ?_)
      iterate 286 intro _
      intro W' h
      show Q _ _ _
      apply hQ
      exact ⟨rfl, rfl, rfl, h.toQ⟩
    · obtain ⟨k, hkk⟩ : ∃ k, init.length = k := ⟨_, rfl⟩
      have hlk : l.length = k + 1 := (by rw [hl]; simp [hkk])
      have hf : l[k]? = some f := (by rw [hl, ← hkk]; simp)
      have hn : n' = k + 1 := (by omega)
      have hla : l.getLast? = some f := (by rw [hl]; simp)
      have hl8 := X.l8
      by_cases hr : f.ring < s.ring
      · have hw : reR { s with off := s.off + 1 } l = .error 34 := (by unfold reR; rw [hla]; simp only [hr, if_true])
        have hdo : doR M { s with off := s.off + 1 } l (21) (P : Int) n = .error 34 := (by rw [show doR M { s with off := s.off + 1 } l (21) (P : Int) n = (match reR { s with off := s.off + 1 } l with | .error e => .error e | .ok (s', l') => .ok ⟨s', l', false, 0, none⟩) from rfl, hw])
        rw [hdo] at hQ
        refine sw21b (E := E) (hk := X.hk) (hn := hn) (hl := hlk) (hf := hf) (hkb := by omega) (hr := hr) (hQ := ?_)
        iterate 286 intro _
        intro W' h
        show Q _ _ _
        apply hQ
        exact ⟨rfl, rfl, rfl, h.toQ⟩
      · have hw : reR { s with off := s.off + 1 } l = .ok ((St.raise { ({ s with off := s.off + 1 } : St) with seg := f.seg, off := f.off, ring := f.ring } f.ring), l.dropLast) := (by unfold reR; rw [hla]; simp only [hr, if_false])
        have hdo : doR M { s with off := s.off + 1 } l (21) (P : Int) n = .ok ⟨(St.raise { ({ s with off := s.off + 1 } : St) with seg := f.seg, off := f.off, ring := f.ring } f.ring), l.dropLast, false, 0, none⟩ := (by rw [show doR M { s with off := s.off + 1 } l (21) (P : Int) n = (match reR { s with off := s.off + 1 } l with | .error e => .error e | .ok (s', l') => .ok ⟨s', l', false, 0, none⟩) from rfl, hw])
        rw [hdo] at hQ
        refine sw21 (E := E) (hk := X.hk) (hn := hn) (hl := hlk) (hf := hf) (hkb := by omega) (hr := hr) (hQ := ?_)
        iterate 286 intro _
        intro W1 v T hv
        obtain ⟨ad2, n2, c2, rfl⟩ := hv
        refine hK _ _ ?_
        exact fin_ok (r := ⟨(St.raise { ({ s with off := s.off + 1 } : St) with seg := f.seg, off := f.off, ring := f.ring } f.ring), l.dropLast, false, 0, none⟩) (hT := T.1) (hF := T.2.1) (hZ := E.z4) (hY := E.z5) (hd := hd2) (hk := T.2.2) (hr := rfl) (hQ := fun a b x6 x7 x8 W' h => by apply hQ; exact h)
end Go.Proofs.Ytiakonmamkfopaa
namespace Go.Proofs.Ytiakonmamkfopaa
open Go.RowKit Go.ChangeShapes
set_option linter.unusedVariables false
set_option maxRecDepth 1000000
def stoV (x : Option (Int × Int × Int)) : Value := .agg #[.bool (stoB x), .int .i64 (stoK x), .int .i64 (stoO x), .int .i64 (stoW x)]
/-- what the document's step answers -/
def RSt (M : List Sg) (s : St) (l : List Fr) (w : World) (e : Ending) (w' : World) : Prop := match stR M s l with
  | .error er => e = .returned (.tuple #[.agg (stC St.zero (.slice none 0 0)), stoV none, .int .i64 0, .bool false, .int .i64 er]) ∧ Below w.heap.size w w'
  | .ok r => ∃ v, e = .returned (.tuple #[.agg (stC r.s v), stoV r.st, .int .i64 r.out, .bool r.told, .int .i64 0]) ∧ (∃ ad n c, v = .slice ad n c) ∧ rstkAt w' v r.l ∧ Below w.heap.size w w'
theorem step_results {W : World} {N N2 : Nat} {s : St} {stk : Value} {is : Bool} {k o x : Int} {x6 x7 x8 : Value} (h : rsAt W N s stk) (hy : blk4 W N2 45 (.bool is) (.int .i64 k) (.int .i64 o) (.int .i64 x)) (tmps : Array Value) (h4 : tmps[4]? = some (.pointer (some ⟨N, 0, none⟩))) (h5 : tmps[5]? = some (.pointer (some ⟨N2, 0, none⟩))) (h6 : tmps[6]? = some x6) (h7 : tmps[7]? = some x7) (h8 : tmps[8]? = some x8) :
    (results Try.f23 tmps).run Try.prog W = .ok (.tuple #[.agg (stC s stk), .agg #[.bool is, .int .i64 k, .int .i64 o, .int .i64 x], x6, x7, x8]) W := by
  have l0 := rrange_loadVar (rs_range h)
  have y0 := hy.cell 0
  have y1 := hy.cell 1
  have y2 := hy.cell 2
  have y3 := hy.cell 3
  simp at y0 y1 y2 y3
  have l1 : Sem.run Try.prog (loadVar 45 ⟨N2, 0, none⟩) W = .ok (.agg #[.bool is, .int .i64 k, .int .i64 o, .int .i64 x]) W := by simp [go_sem, y0, y1, y2, y3]
  simp [results, Try.results23, h4, h5, h6, h7, h8, l0, l1, asAddr]
theorem OutQ.below {w W W' : World} {b4 b5 b11 : Nat} {s' : St} {v : Value} {is : Bool} {k o x : Int} (h : OutQ W W' b4 b5 b11 s' v is k o x) (hb : Below w.heap.size w W) (h4 : w.heap.size ≤ b4) (h5 : w.heap.size ≤ b5) (h11 : w.heap.size ≤ b11) : Below w.heap.size w W' :=
  Off.below hb h.o hb.size (fun j hj => by rcases hj with e | e | e <;> omega)
/-- what the head holds to -/
structure HSt (w W : World) (s : St) (v mv : Value) (vs : List Value) (M : List Sg) (l : List Fr) : Prop where
  a : rsAt W w.heap.size s v
  z : rsAt W (w.heap.size + 1) St.zero (.slice none 0 0)
  y : blk4 W (w.heap.size + 1 + 1) 45 (.bool false) (.int .i64 0) (.int .i64 0) (.int .i64 0)
  m : Segs W 0 mv vs M
  k : rstkAt W v l
  b : Below w.heap.size w W
theorem HSt.below {w W W' : World} {s : St} {v mv : Value} {vs : List Value} {M : List Sg} {l : List Fr} (h : HSt w W s v mv vs M l) (hb : Below W.heap.size W W') : HSt w W' s v mv vs M l :=
  have ho : Off (fun _ => False) W W' := .of_below hb
  ⟨ho.keeps h.a id, ho.keeps h.z id, ho.keeps h.y id, h.m.off ho (fun _ h => h.elim) (fun _ h => h.elim), ho.row h.k (fun _ h => h.elim), below2 h.b hb⟩
theorem HSt.off {w W W' : World} {s t : St} {v tv mv : Value} {vs : List Value} {M : List Sg} {l : List Fr} {B : Nat} (h : HSt w W s v mv vs M l) (ho : Off (· = B) W W') (ht : rsAt W B t tv) (hB : (w.heap.size + 1 + 1) < B) : HSt w W' s v mv vs M l :=
  ⟨ho.keeps h.a (by omega), ho.keeps h.z (by omega), ho.keeps h.y (by omega), h.m.off ho (rs_not ht _ (by decide)) (rs_not ht _ (by decide)), ho.row h.k (rs_not ht _ (by decide)), Off.below h.b ho h.b.size (fun k hk => by omega)⟩
set_option maxHeartbeats 8000000 in
theorem c_rStep (w : World) (s : St) (ad : Option Addr) (n' c : Nat) (mv : Value) (vs : List Value) (M : List Sg) (l : List Fr) (hM : Segs w 0 mv vs M) (h5 : M.length ≤ 5) (hmg : ∀ g ∈ M, GoodSg g) (hk : rstkAt w (.slice ad n' c) l) (hl8 : l.length ≤ 8) (wa : WfI s.a) : Calls Try.prog 23 #[.agg (stC s (.slice ad n' c)), mv] w (RSt M s l w) := by
  obtain ⟨W0, hW0, A0, Z0, Y0, B0⟩ : ∃ W, ((w.alloc (.cells (stC s (.slice ad n' c)) 39)).alloc (.cells (stC St.zero (.slice none 0 0)) 39)).alloc (.cells #[.bool false, .int .i64 0, .int .i64 0, .int .i64 0] 45) = W ∧ Hid (rsAt W w.heap.size s (.slice ad n' c)) ∧ Hid (rsAt W (w.heap.size + 1) St.zero (.slice none 0 0)) ∧ Hid (blk4 W (w.heap.size + 1 + 1) 45 (.bool false) (.int .i64 0) (.int .i64 0) (.int .i64 0)) ∧ Hid (Below w.heap.size w W) := ⟨_, rfl, al_keep (al_keep (al_new _ rfl)), al_keep (al_new _ (by simp)), al_new _ (by simp), below_al (below_al (below_al0 _ _) _) _⟩
  replace hW0 := Lib.hid hW0
  have hM0 : Hid (Segs W0 0 mv vs M) := hM.off (ex := fun _ => False) (.of_below B0.out) (fun _ h => h.elim) (fun _ h => h.elim)
  have hk0 : Hid (rstkAt W0 (.slice ad n' c) l) := Off.row (ex := fun _ => False) (.of_below B0.out) hk (fun _ h => h.elim)
  have h1000 : Hid (M.length ≤ 1000) := Lib.hid (by omega)
  replace hmg := Lib.hid hmg
  replace h5 := Lib.hid h5
  replace hl8 := Lib.hid hl8
  replace wa := Lib.hid wa
  clear hM hk
  go_enter Try.func23, Try.ntmps23
  go_upto_region 1 with fail
  rw [show ((w.alloc (.cells (stC s (.slice ad n' c)) 39)).alloc (.cells #[.int .i64 0, .int .i64 0, .int .i64 0, .int .i64 0, .int .i64 0, .int .i64 0, .int .i64 0, .int .i64 0, .int .i64 0, .int .i64 0, .int .i64 0, .int .i64 0, .int .i64 0, .int .i64 0, .int .i64 0, .int .i64 0, .slice none 0 0, .bool false] 39)).alloc (.cells #[.bool false, .int .i64 0, .int .i64 0, .int .i64 0] 45) = W0 from hW0.out]
  clear hW0
  cases hh : s.hal with
  | true =>
    have hst : Hid (stR M s l = .ok ⟨s, l, false, 0, none⟩) := Lib.hid (by unfold stR; rw [hh]; rfl)
    have t17 : W0.cell? ⟨w.heap.size, 17, none⟩ = some (.bool true) := by rw [← hh]; exact A0.out.cell 17
    clear hh
    go_wp2_with (first | ((with_reducible refine wpList_load_rs (op := ⟨some 26, .load 39 (.tmp 2), _, _, _, _⟩) (N := w.heap.size) (s := s) (stk := (.slice ad n' c)) ?_ (.tmp 2) ?_ ?_ ?_ ?_); exact rfl; exact rfl; exact rfl; exact rs_range A0.out) | ((with_reducible refine wpList_store_rs (op := ⟨none, .store 39 (.tmp 4) (.tmp 26), _, _, _, _⟩) (N := (w.heap.size + 1)) (s := St.zero) (stk := (.slice none 0 0)) (s' := s) (stk' := (.slice ad n' c)) ?_ (.tmp 4) (.tmp 26) ?_ ?_ ?_ ?_ ?_ ?_); exact rfl; exact rfl; exact rfl; exact rfl; exact Z0.out; exact rfl; intro w9 S1 F1; have Y1 : Hid (blk4 w9 (w.heap.size + 1 + 1) 45 (.bool false) (.int .i64 0) (.int .i64 0) (.int .i64 0)) := Off.keeps F1 Y0.out (by omega); have y0 : w9.cell? ⟨(w.heap.size + 1 + 1), 0, none⟩ = some (.bool false) := Y1.out.cell 0; have y1 : w9.cell? ⟨(w.heap.size + 1 + 1), 1, none⟩ = some (.int .i64 0) := Y1.out.cell 1; have y2 : w9.cell? ⟨(w.heap.size + 1 + 1), 2, none⟩ = some (.int .i64 0) := Y1.out.cell 2; have y3 : w9.cell? ⟨(w.heap.size + 1 + 1), 3, none⟩ = some (.int .i64 0) := Y1.out.cell 3; have yf : ∀ j, w9.frozen? ⟨(w.heap.size + 1 + 1), j, none⟩ = false := fun j => Y1.out.free j; replace S1 := Lib.hid S1; replace F1 := Lib.hid F1))
    have O := out4 S1.out F1.out Y1.out (by omega) false 0 0 0
    refine bodyPost_ret (step_results O.z O.y _ rfl rfl rfl rfl rfl) rfl ?_
    unfold RSt
    rw [hst.out]
    have OQ : OutQ W0 _ (w.heap.size + 1) (w.heap.size + 1 + 1) (w.heap.size + 1 + 1) _ _ _ _ _ _ := O.toQ
    refine ⟨_, rfl, ⟨_, _, _, rfl⟩, ?_, OQ.below B0.out (by omega) (by omega) (by omega)⟩
    refine Off.row O.o hk0.out (fun k hk' cs hc => ?_)
    rcases hk' with e | e
    · subst e; exact rs_not Z0.out _ (by decide) _ rfl cs hc
    · subst e
      have h3 := (show W0.heap[_]? = _ from Y0.out).symm.trans hc
      simp only [Option.some.injEq, Obj.cells.injEq] at h3
      exact absurd h3.2.1 (by decide)
  | false =>
    have t17 : W0.cell? ⟨w.heap.size, 17, none⟩ = some (.bool false) := by rw [← hh]; exact A0.out.cell 17
    have hst0 : Hid (stR M s l = match feR M s with | .error e => .error e | .ok (op, p, n) => doR M { s with off := s.off + 1 } l op p n) := Lib.hid (by unfold stR; rw [hh]; rfl)
    clear hh
    cases hf : feR M s with
    | error er =>
      have her := feR_err hf
      have hne : (er != 0) = true := by simp; omega
      rw [hf] at hst0
      replace hf := Lib.hid hf
      replace her := Lib.hid her
      go_upto_region 4 with (first | ((with_reducible refine wpList_load_rs (op := ⟨some 29, .load 39 (.tmp 2), _, _, _, _⟩) (N := w.heap.size) (s := s) (stk := (.slice ad n' c)) ?_ (.tmp 2) ?_ ?_ ?_ ?_); exact rfl; exact rfl; exact rfl; exact rs_range A0.out) | (go_at_call 43; refine (c_rfetch W0 s ad n' c mv vs M hM0.out h1000.out).mono ?_; rintro e w1 ⟨rfl, hb1⟩; rw [hf.out]; dsimp only [feV]; replace hb1 := Lib.hid hb1))
      obtain ⟨W1, hW1, B1⟩ : ∃ W, w1.alloc (.cells #[.int .i64 0, .int .i64 0, .int .i64 0] 64) = W ∧ Hid (Below W0.heap.size W0 W) := ⟨_, rfl, below2 hb1.out (below_al0 _ _)⟩
      rw [hW1]
      clear hW1
      have Z1 : Hid (rsAt W1 (w.heap.size + 1) St.zero (.slice none 0 0)) := Off.keeps (.of_below (ex := fun _ => False) B1.out) Z0.out id
      have Y2 : Hid (blk4 W1 (w.heap.size + 1 + 1) 45 (.bool false) (.int .i64 0) (.int .i64 0) (.int .i64 0)) := Off.keeps (.of_below (ex := fun _ => False) B1.out) Y0.out id
      go_wp2_with (first | ((with_reducible refine wpList_store_rs (op := ⟨none, .store 39 (.tmp 4) (.tmp 36), _, _, _, _⟩) (N := (w.heap.size + 1)) (s := St.zero) (stk := (.slice none 0 0)) (s' := St.zero) (stk' := (.slice none 0 0)) ?_ (.tmp 4) (.tmp 36) ?_ ?_ ?_ ?_ ?_ ?_); exact rfl; exact rfl; exact rfl; exact rfl; exact Z1.out; exact rfl; intro w9 S1 F1; have Y1 : Hid (blk4 w9 (w.heap.size + 1 + 1) 45 (.bool false) (.int .i64 0) (.int .i64 0) (.int .i64 0)) := Off.keeps F1 Y2.out (by omega); have y0 : w9.cell? ⟨(w.heap.size + 1 + 1), 0, none⟩ = some (.bool false) := Y1.out.cell 0; have y1 : w9.cell? ⟨(w.heap.size + 1 + 1), 1, none⟩ = some (.int .i64 0) := Y1.out.cell 1; have y2 : w9.cell? ⟨(w.heap.size + 1 + 1), 2, none⟩ = some (.int .i64 0) := Y1.out.cell 2; have y3 : w9.cell? ⟨(w.heap.size + 1 + 1), 3, none⟩ = some (.int .i64 0) := Y1.out.cell 3; have yf : ∀ j, w9.frozen? ⟨(w.heap.size + 1 + 1), j, none⟩ = false := fun j => Y1.out.free j; replace S1 := Lib.hid S1; replace F1 := Lib.hid F1))
      have O := out4 S1.out F1.out Y1.out (by omega) false 0 0 0
      refine bodyPost_ret (step_results O.z O.y _ rfl rfl rfl rfl rfl) rfl ?_
      unfold RSt
      rw [hst0.out]
      have OQ : OutQ W1 _ (w.heap.size + 1) (w.heap.size + 1 + 1) (w.heap.size + 1 + 1) _ _ _ _ _ _ := O.toQ
      exact ⟨rfl, OQ.below (below2 B0.out B1.out) (by omega) (by omega) (by omega)⟩
    | ok opn =>
      obtain ⟨op, p, n⟩ := opn
      obtain ⟨o0, o23, p0, p4⟩ := feR_range hf
      obtain ⟨P, rfl⟩ := Int.eq_ofNat_of_zero_le p0
      obtain ⟨-, f0, gf, hgf, f1⟩ := feR_n hf
      have f16 := (hmg.out gf hgf).ws
      have hwo : wrap64 (s.off + 1) = s.off + 1 := by unfold wrap64; omega
      have hP : Hid (P < 4) := Lib.hid (by omega)
      have hPi : (P : Int) < 4 := p4
      rw [hf] at hst0
      replace hf := Lib.hid hf
      have OO := Lib.hid (And.intro o0 o23)
      replace hwo := Lib.hid hwo
      clear o0 o23 p0 p4 f0 hgf f1 f16
      go_upto_region 4 with (first | ((with_reducible refine wpList_load_rs (op := ⟨some 29, .load 39 (.tmp 2), _, _, _, _⟩) (N := w.heap.size) (s := s) (stk := (.slice ad n' c)) ?_ (.tmp 2) ?_ ?_ ?_ ?_); exact rfl; exact rfl; exact rfl; exact rs_range A0.out) | (go_at_call 43; refine (c_rfetch W0 s ad n' c mv vs M hM0.out h1000.out).mono ?_; rintro e w1 ⟨rfl, hb1⟩; rw [hf.out]; dsimp only [feV]; replace hb1 := Lib.hid hb1))
      obtain ⟨b9, hb9⟩ : ∃ b, w1.heap.size = b := ⟨_, rfl⟩
      obtain ⟨W1, hW1, B1, I1⟩ : ∃ W, w1.alloc (.cells #[.int .i64 op, .int .i64 (P : Int), .int .i64 n] 64) = W ∧ Hid (Below W0.heap.size W0 W) ∧ Hid (blk3 W b9 64 (.int .i64 op) (.int .i64 (P : Int)) (.int .i64 n)) := ⟨_, rfl, below2 hb1.out (below_al0 _ _), hb9 ▸ heap_alloc_new _ _⟩
      rw [hW1, hb9]
      have d9 : Hid ((w.heap.size + 1 + 1) < b9) := Lib.hid (Nat.lt_of_lt_of_le Y0.out.lt (hb9 ▸ hb1.out.size))
      clear hW1 hb9 hb1
      have G0 : Hid (HSt w W0 s (.slice ad n' c) mv vs M l) := ⟨A0.out, Z0.out, Y0.out, hM0.out, hk0.out, B0.out⟩
      have G1 : Hid (HSt w W1 s (.slice ad n' c) mv vs M l) := G0.out.below B1.out
      clear G0 A0 Z0 Y0 hM0 hk0 B0 B1 t17
      have TZ : Hid (rsAt (W1.alloc (.cells #[.int .i64 0, .int .i64 0, .int .i64 0, .int .i64 0, .int .i64 0, .int .i64 0, .int .i64 0, .int .i64 0, .int .i64 0, .int .i64 0, .int .i64 0, .int .i64 0, .int .i64 0, .int .i64 0, .int .i64 0, .int .i64 0, .slice none 0 0, .bool false] 39)) W1.heap.size St.zero (.slice none 0 0)) := heap_alloc_new _ _
      have d11 : Hid (b9 < W1.heap.size) := I1.out.lt
      go_upto_region 7 with (first | ((with_reducible refine wpList_load_rs (op := ⟨some 39, .load 39 (.tmp 2), _, _, _, _⟩) (N := w.heap.size) (s := s) (stk := (.slice ad n' c)) ?_ (.tmp 2) ?_ ?_ ?_ ?_); exact rfl; exact rfl; exact rfl; exact rs_range G1.out.a) | ((with_reducible refine wpList_store_rs (op := ⟨none, .store 39 (.tmp 11) (.tmp 39), _, _, _, _⟩) (N := W1.heap.size) (s := St.zero) (stk := (.slice none 0 0)) (s' := s) (stk' := (.slice ad n' c)) ?_ (.tmp 11) (.tmp 39) ?_ ?_ ?_ ?_ ?_ ?_); exact rfl; exact rfl; exact rfl; exact rfl; exact TZ.out; exact rfl; intro w2 S2 F2; replace S2 := Lib.hid S2; replace F2 := Lib.hid F2))
      obtain ⟨b11, hb11⟩ : ∃ b, W1.heap.size = b := ⟨_, rfl⟩
      have BA : Hid (Below W1.heap.size W1 (W1.alloc (.cells #[.int .i64 0, .int .i64 0, .int .i64 0, .int .i64 0, .int .i64 0, .int .i64 0, .int .i64 0, .int .i64 0, .int .i64 0, .int .i64 0, .int .i64 0, .int .i64 0, .int .i64 0, .int .i64 0, .int .i64 0, .int .i64 0, .slice none 0 0, .bool false] 39))) := below_al0 _ _
      have I2 : Hid (blk3 w2 b9 64 (.int .i64 op) (.int .i64 (P : Int)) (.int .i64 n)) := Off.keeps F2.out (Off.keeps (ex := fun _ => False) (.of_below BA.out) I1.out id) (by have := d11.out; omega)
      have G2 : Hid (HSt w w2 s (.slice ad n' c) mv vs M l) := (G1.out.below BA.out).off F2.out TZ.out (by have := d9.out; have := d11.out; omega)
      clear I1 G1 BA TZ F2
      rw [hb11] at S2 d11 ⊢
      clear hb11
      have t1 : w2.cell? ⟨b11, 1, none⟩ = some (.int .i64 s.off) := S2.out.cell 1
      have tf : ∀ j, w2.frozen? ⟨b11, j, none⟩ = false := fun j => S2.out.free j
      go_upto_region 8 with fail
      obtain ⟨W3, hW3, T3, F3⟩ : ∃ W, w2.setCell ⟨b11, 1, none⟩ (.int .i64 (wrap64 (s.off + 1))) = W ∧ Hid (rsAt W b11 { s with off := s.off + 1 } (.slice ad n' c)) ∧ Hid (Off (· = b11) w2 W) := ⟨_, rfl, by rw [hwo.out]; exact rs_off S2.out _, off1 _ _ _ _⟩
      rw [hW3]
      have I3 : Hid (blk3 W3 b9 64 (.int .i64 op) (.int .i64 (P : Int)) (.int .i64 n)) := Off.keeps F3.out I2.out (by have := d11.out; omega)
      have G3 : Hid (HSt w W3 s (.slice ad n' c) mv vs M l) := G2.out.off F3.out S2.out (by have := d9.out; have := d11.out; omega)
      clear hW3 t1 tf I2 G2 F3 S2
      have i1 : W3.cell? ⟨b9, 1, none⟩ = some (.int .i64 (P : Int)) := I3.out.facts.1.2.1
      have p0 : W3.cell? ⟨w.heap.size, 4 + P * 3, none⟩ = some (.int .i64 (s.pt P).seg) := (G3.out.a.cell _).trans (st_pt s _ P hP.out).1
      have p1 : W3.cell? ⟨w.heap.size, 4 + P * 3 + 1, none⟩ = some (.int .i64 (s.pt P).off) := (G3.out.a.cell _).trans (st_pt s _ P hP.out).2.1
      have p2 : W3.cell? ⟨w.heap.size, 4 + P * 3 + 2, none⟩ = some (.int .i64 (s.pt P).ring) := (G3.out.a.cell _).trans (st_pt s _ P hP.out).2.2
      have z2 : w.heap.size < W3.heap.size := G3.out.a.lt
      have z9 : b9 < W3.heap.size := I3.out.lt
      have z11 : Hid (b11 < W3.heap.size) := T3.out.lt
      go_upto_region 9 with fail
      clear i1 p0 p1 p2 z2 z9
      obtain ⟨b12, hb12⟩ : ∃ b, W3.heap.size = b := ⟨_, rfl⟩
      obtain ⟨W4, hW4, P4, B4⟩ : ∃ W, W3.alloc (.cells #[.int .i64 (s.pt P).seg, .int .i64 (s.pt P).off, .int .i64 (s.pt P).ring] 24) = W ∧ Hid (blk3 W b12 24 (.int .i64 (s.pt P).seg) (.int .i64 (s.pt P).off) (.int .i64 (s.pt P).ring)) ∧ Hid (Below W3.heap.size W3 W) := ⟨_, rfl, hb12 ▸ heap_alloc_new _ _, below_al0 _ _⟩
      rw [hW4, hb12]
      rw [hb12] at z11
      have I4 : Hid (blk3 W4 b9 64 (.int .i64 op) (.int .i64 (P : Int)) (.int .i64 n)) := Off.keeps (ex := fun _ => False) (.of_below B4.out) I3.out id
      have T4 : Hid (rsAt W4 b11 { s with off := s.off + 1 } (.slice ad n' c)) := Off.keeps (ex := fun _ => False) (.of_below B4.out) T3.out id
      have G4 : Hid (HSt w W4 s (.slice ad n' c) mv vs M l) := G3.out.below B4.out
      clear hW4 hb12 B4 I3 T3 G3
      have x2 : W4.cell? ⟨w.heap.size, 2, none⟩ = some (.int .i64 s.ring) := G4.out.a.cell 2
      have q2 : W4.cell? ⟨b12, 2, none⟩ = some (.int .i64 (s.pt P).ring) := P4.out.facts.1.2.2
      have q0 : W4.cell? ⟨b12, 0, none⟩ = some (.int .i64 (s.pt P).seg) := P4.out.facts.1.1
      have z2 : w.heap.size < W4.heap.size := G4.out.a.lt
      have z12 : b12 < W4.heap.size := P4.out.lt
      go_upto_region 10 with fail
      rw [eb_if]
      go_upto_block 0 with (first | (go_at_call 44; refine (c_rknown W4 mv vs M (s.pt P).seg G4.out.m h1000.out).mono ?_; rintro e w5 ⟨au, cu, g, rfl, hseg, hrow, hb5⟩; unfold sgA; dsimp only; replace hseg := Lib.hid hseg; clear hrow; replace hb5 := Lib.hid hb5))
      clear x2 q2 q0 z2
      obtain ⟨b14, hb14⟩ : ∃ b, w5.heap.size = b := ⟨_, rfl⟩
      obtain ⟨W6, hW6, g6, B6⟩ : ∃ W, w5.alloc (.cells #[.bool g.is, .slice au g.ws.length cu, .int .i64 g.md, .int .i64 g.r1, .int .i64 g.r2, .int .i64 g.r3, .int .i64 g.g] 57) = W ∧ Hid (blk7 W b14 57 (.bool g.is) (.slice au g.ws.length cu) (.int .i64 g.md) (.int .i64 g.r1) (.int .i64 g.r2) (.int .i64 g.r3) (.int .i64 g.g)) ∧ Hid (Below W4.heap.size W4 W) := ⟨_, rfl, hb14 ▸ heap_alloc_new _ _, below2 hb5.out (below_al0 _ _)⟩
      have d14 : b12 < b14 := Nat.lt_of_lt_of_le z12 (hb14 ▸ hb5.out.size)
      rw [hW6, hb14]
      have G6 := G4.out.below B6.out
      have E : SE W6 w.heap.size (w.heap.size + 1) (w.heap.size + 1 + 1) b9 b11 b12 b14 s { s with off := s.off + 1 } (.slice ad n' c) op n P g (.slice au g.ws.length cu) := ⟨G6.a, G6.z, G6.y, Off.keeps (ex := fun _ => False) (.of_below B6.out) I4.out id, Off.keeps (ex := fun _ => False) (.of_below B6.out) T4.out id, Off.keeps (ex := fun _ => False) (.of_below B6.out) P4.out id, g6.out, by have := d9.out; have := d11.out; have := z11.out; omega⟩
      have X : SX W6 mv vs M s (.slice ad n' c) l P g (.slice au g.ws.length cu) := ⟨hP.out, G6.m, h5.out, hmg.out, G6.k, hl8.out, wa.out, ⟨_, _, rfl⟩, hseg.out⟩
      rename_i K hK
      refine sw_end W6 w.heap.size (w.heap.size + 1) (w.heap.size + 1 + 1) b9 b11 b12 b14 n' c P ad s n g _ mv _ _ _ _ _ _ _ _ _ _ _ _ _ _ _ _ _ _ _ _ _ _ _ _ _ _ _ _ _ _ _ _ _ _ _ _ _ _ _ _ _ _ _ _ _ _ _ _ _ _ _ _ _ _ _ _ _ _ _ _ _ _ _ _ _ _ _ _ _ _ _ _ _ _ _ _ _ _ _ _ _ _ _ _ _ _ _ _ _ _ _ _ _ _ _ _ _ _ _ _ _ _ _ _ _ _ _ _ _ _ _ _ _ _ _ _ _ _ _ _ _ _ _ _ _ _ _ _ _ _ _ _ _ _ _ _ _ _ _ _ _ _ _ _ _ _ _ _ _ _ _ _ _ _ _ _ _ _ _ _ _ _ _ _ _ _ _ _ _ _ _ _ _ _ _ _ _ _ _ _ _ _ _ _ _ _ _ _ _ _ _ _ _ _ _ _ _ _ _ _ _ _ _ _ _ _ _ _ _ _ _ _ _ _ _ _ _ _ _ _ _ _ _ _ _ _ _ _ _ _ _ _ _ _ _ _ _ _ _ _ _ _ _ _ _ _ _ _ _ _ _ _ _ _ _ _ _ _ _ _ _ _ _ _ _ _ _ _ _ _ _ _ _ _ _ _ _ _ _ _ _ _ _ _ _ _ _ _ _ _ _ _ _ _ _ _ _ _ _ _ _ _ _ _ _ _ _ _ _ _ _ _ _ _ _ _ _ _ _ _ _ _ _ _ _ vs M l op E X OO.out.1 OO.out.2 K hK ?_
      iterate 288 intro _
      intro x6 x7 x8 W' h
      have B6 := G6.b
      cases hd : doR M { s with off := s.off + 1 } l op (P : Int) n with
      | error er =>
        rw [hd] at h
        obtain ⟨e6, e7, e8, hq⟩ := h
        subst e6 e7 e8
        have hres : stR M s l = .error er := hst0.out.trans hd
        refine bodyPost_ret (step_results (x6 := .int .i64 0) (x7 := .bool false) (x8 := .int .i64 er) hq.z hq.y _ rfl rfl rfl rfl rfl) rfl ?_
        unfold RSt
        rw [hres]
        exact ⟨rfl, hq.below B6 (by omega) (by omega) (by have := d9.out; have := d11.out; omega)⟩
      | ok r =>
        rw [hd] at h
        obtain ⟨e6, e7, e8, v, hv, hkv, hq⟩ := h
        subst e6 e7 e8
        have hres : stR M s l = .ok r := hst0.out.trans hd
        refine bodyPost_ret (step_results (x6 := .int .i64 r.out) (x7 := .bool r.told) (x8 := .int .i64 0) hq.z hq.y _ rfl rfl rfl rfl rfl) rfl ?_
        unfold RSt
        rw [hres]
        exact ⟨v, rfl, hv, hkv, hq.below B6 (by omega) (by omega) (by have := d9.out; have := d11.out; omega)⟩
end Go.Proofs.Ytiakonmamkfopaa
